/- The law PrefetchOthers. -/
import Derived.Test.YtogcofeencgipaaGreatDoorZQW
import Derived.Test.YtogcofeencgipaaGreatDoorZQX
import Derived.Test.YtogcofeencgipaaGreatDoorZQR
namespace Go.Proofs.YtogcofeencgipaaGreatDoor
set_option linter.unusedVariables false
set_option linter.unusedSimpArgs false
open Go Go.RowKit
open Enc (enc)
set_option maxRecDepth 20000
theorem c_LearnF (c : Cache) (zone : Bytes) (q : Question) (a : Answer) (now : Int) {r : List EntryC × Int} (h : learnP zone q a.c now (filterF zone q a.c).1 c.c = r) {H : Hp} {w : World} (hs : Sat H w) (hR : Rules H) (hg : Enc.good H c) (hz : LenOk zone) (hq : Enc.good H q) (ha : Enc.good H a) (hnow : I64 now) : Calls Tryz.prog 31 #[.agg (enc c).toArray, strV zone, .agg (enc q).toArray, .agg (enc a).toArray, intV now] w (Caches w H r) := by
  subst h
  exact c_Learn c zone q a now H w hs hR hg hz hq ha hnow
theorem c_CleanF (c : Cache) (now : Int) {r : List EntryC × Int} (h : cleanC c.c now = r) {H : Hp} {w : World} (hs : Sat H w) (hR : Rules H) (hg : Enc.good H c) (hnow : I64 now) : Calls Tryz.prog 47 #[.agg (enc c).toArray, intV now] w (Caches w H r) := by
  subst h
  exact c_Clean c now H w hs hR hg hnow
theorem c_SameF (a b : Cache) {v : Bool} (h : decide (a.c = b.c) = v) {H : Hp} {w : World} (hs : Sat H w) (ha : Enc.good H a) (hb : Enc.good H b) : Calls Tryz.prog 35 #[.agg (enc a).toArray, .agg (enc b).toArray] w (Ret w (.bool v)) := by
  subst h
  exact c_Same22 a b H w hs ha hb
theorem filterF_none {zone : Bytes} {q : Question} {a : AnswerC} (h : a.kind = 7) : (filterF zone q a).1 = [] := by
  unfold filterF
  split
  · rfl
  · split
    · rfl
    · show a.sets.filter (takenF zone q a) = []
      rw [List.filter_eq_nil_iff]
      intro x _
      have : ruleF zone q a x.set = false := by
        unfold ruleF ruleC
        rw [if_neg (by omega), if_neg (by omega), if_neg (by omega), if_neg (by omega), if_neg (by omega)]; rfl
      unfold takenF
      rw [this, Bool.and_false]; decide
set_option maxHeartbeats 16000000 in
theorem c_POthers (c : Cache) (zone : Bytes) (q : Question) (a : Answer) (now : Int) (H : Hp) (w : World) (hs : Sat H w) (hR : Rules H) (hg : Enc.good H c) (hz : LenOk zone) (hq : Enc.good H q) (ha : Enc.good H a) (hnow : I64 now) : Calls Tryz.prog 12 #[.agg (enc c).toArray, strV zone, .agg (enc q).toArray, .agg (enc a).toArray, intV now] w (Ret w (.bool true)) := by
  refine T.enter (vs := [.agg (enc c).toArray, strV zone, .agg (enc q).toArray, .agg (enc a).toArray, intV now]) (H := H) Tryz.func12 rfl rfl rfl hs ?_
  obtain ⟨⟨d0, er⟩, hr⟩ : ∃ x, learnP zone q a.c now (filterF zone q a.c).1 c.c = x := ⟨_, rfl⟩
  have hzl : zone.length ≤ 9223372036854775807 := hz
  have hnl : q.name.length ≤ 9223372036854775807 := hq.1
  obtain ⟨he0, hd0⟩ | ⟨he0, hok⟩ := learn_cases hr
  · subst hd0
    repeat (any_goals (first | refine T.seq ?_ | refine T.region ?_ | refine TL.nil ?_ | refine N.next ?_ | refine N.inBlock ?_ | refine N.exit_same ?_ | refine N.exit_then ?_ | refine N.ret_then ?_ | refine N.ret_block ?_ | (apply N.exit_other; rfl) | refine T.ret ?_ | refine T.skip ?_ | refine T.exit ?_ | refine T.block ?_ | (apply T.cond_true; rfl) | (apply T.cond_false; rfl) | (apply T.test; rfl; (with_reducible (first | exact Is.ndec | exact Is.dec | exact Is.not | ((fail_if_success exact Is.litT); (fail_if_success exact Is.litF); exact Is.base))); intro _; rotate_left; intro _; rotate_right) | (apply TL.skip; rfl; rfl; rfl) | (apply TL.skip_none; rfl; rfl) | (apply TL.x; rfl; rfl; (apply X.box (d := 5); rfl; rfl; rfl); intro b5 _) | (apply TL.x; rfl; rfl; (apply X.box (d := 7); rfl; rfl; rfl); intro b7 _) | (apply TL.x; rfl; rfl; (apply X.box (d := 8); rfl; rfl; rfl); intro b8 _) | (apply TL.callE (f := 25) [] Tryz.call25; rfl; rfl; rfl; rfl; (exact fun _ hs => c_head32 _ _ hs.sat hR)) | (apply TL.callE (f := 26) [.agg (enc c).toArray, .slice none 0 0, .agg (enc a).toArray] Tryz.call26; rfl; rfl; rfl; rfl; (exact fun _ hs => c_few32 c (Slc.nil _) a _ _ hs.sat hg Slc.nil_good ha)) | (apply TL.x; rfl; rfl; (apply X.callFE (f := 31) [.agg (enc c).toArray, strV zone, .agg (enc q).toArray, .agg (enc a).toArray, intV now] Tryz.call31; rfl; rfl; rfl; exact (fun _ hs => c_LearnF c zone q a now hr hs.sat hR hg hz hq ha hnow)); intro p hp; have hpl := cache_count hp.1.1 (show ([] : List EntryC).length = 0 from rfl) hp.1.2) | (apply TL.x; rfl; rfl; (apply X.storeTo 0 (enc p.2); rfl; rfl; rfl; rfl; rfl; rfl; rfl; rfl; rfl; rfl); intro _ _) | (apply TL.val; rfl; rfl; (first | exact vpure | exact vread)) | (apply TL.x; rfl; rfl; (first | exact xgrow | exact xput); intro _ _) | (apply TL.guard; rfl; rfl; rfl; (with_reducible (first | exact Is.ndec | exact Is.dec | exact Is.not | ((fail_if_success exact Is.litT); (fail_if_success exact Is.litF); exact Is.base))); intro _; rotate_left; intro _; rotate_right)))
    all_goals (try contradiction)
    all_goals (try (exfalso; omega))
    all_goals first
      | exact N.ret_bool rfl (by (exact rvx)) rfl
      | exact N.ret_bool rfl (by (exact rvx)) (decide_eq_true (by omega))
  · subst he0
    have hcl := clean_yes hok.cache hok.time
    have hoth := others_law hok
    have href : a.kind = 7 → d0 = freshC c.c now := fun h => refused_law ((filterF_none (a := a.c) h) ▸ hok)
    have hafter := hok.after
    have hfok : cacheOK (freshC c.c now) = true := cache_sub hok.cache (fresh_sub ..)
    repeat (any_goals (first | (apply T.seqU 11; rfl) | refine T.region ?_ | refine TL.nil ?_ | refine N.next ?_ | refine N.inBlock ?_ | refine N.exit_same ?_ | refine N.exit_then ?_ | refine N.ret_then ?_ | refine N.ret_block ?_ | (apply N.exit_other; rfl) | refine T.ret ?_ | refine T.skip ?_ | refine T.exit ?_ | refine T.block ?_ | (apply T.cond_true; rfl) | (apply T.cond_false; rfl) | (apply T.test; rfl; (with_reducible (first | exact Is.ndec | exact Is.dec | exact Is.not | ((fail_if_success exact Is.litT); (fail_if_success exact Is.litF); exact Is.base))); intro _; rotate_left; intro _; rotate_right) | (apply TL.skip; rfl; rfl; rfl) | (apply TL.skip_none; rfl; rfl) | (apply TL.x; rfl; rfl; (apply X.box (d := 5); rfl; rfl; rfl); intro b5 _) | (apply TL.x; rfl; rfl; (apply X.box (d := 7); rfl; rfl; rfl); intro b7 _) | (apply TL.x; rfl; rfl; (apply X.box (d := 8); rfl; rfl; rfl); intro b8 _) | (apply TL.callE (f := 25) [] Tryz.call25; rfl; rfl; rfl; rfl; (exact fun _ hs => c_head32 _ _ hs.sat hR)) | (apply TL.callE (f := 26) [.agg (enc c).toArray, .slice none 0 0, .agg (enc a).toArray] Tryz.call26; rfl; rfl; rfl; rfl; (exact fun _ hs => c_few32 c (Slc.nil _) a _ _ hs.sat hg Slc.nil_good ha)) | (apply TL.x; rfl; rfl; (apply X.callFE (f := 31) [.agg (enc c).toArray, strV zone, .agg (enc q).toArray, .agg (enc a).toArray, intV now] Tryz.call31; rfl; rfl; rfl; exact (fun _ hs => c_LearnF c zone q a now hr hs.sat hR hg hz hq ha hnow)); intro p hp; obtain ⟨⟨hp1, hp2⟩, hp3⟩ := hp; have hR1 := hR.mono hp3; have hg1 := Enc.mono hp3 hg; simp only at hp1) | (apply TL.x; rfl; rfl; (apply X.alloc (d := 12); rfl; rfl; rfl); intro b12 _) | (apply TL.x; rfl; rfl; (apply X.alloc (d := 14); rfl; rfl; rfl); intro b14 _) | (apply TL.x; rfl; rfl; (apply X.storeTo 0 (enc p.2); rfl; rfl; rfl; rfl; rfl; rfl; rfl; rfl; rfl; rfl); intro _ _) | (apply TL.x; rfl; rfl; (apply X.callFE (f := 47) [.agg (enc c).toArray, intV now] Tryz.call47; rfl; rfl; rfl; exact (fun _ hs => c_CleanF c now hcl hs.sat hR1 hg1 hnow)); intro u hu; obtain ⟨⟨hu1, hu2⟩, hu3⟩ := hu; have hp2 := Enc.mono hu3 hp2; have hR1 := hR1.mono hu3; simp only at hu1) | (apply TL.x; rfl; rfl; (apply X.storeTo 0 (enc u.2); rfl; rfl; rfl; rfl; rfl; rfl; rfl; rfl; rfl; rfl); intro _ _) | (apply TL.callE (f := 44) [.agg (enc p.2).toArray] Tryz.call44; rfl; rfl; rfl; rfl; (exact fun _ hs => c_validV p.2 (hp1 ▸ hafter) hs.sat hR1 hp2)) | (apply TL.val; rfl; rfl; (first | exact vpure | exact vread)) | (apply TL.x; rfl; rfl; (first | exact xgrow | exact xput); intro _ _) | (apply TL.guard; rfl; rfl; rfl; (with_reducible (first | exact Is.ndec | exact Is.dec | exact Is.not | ((fail_if_success exact Is.litT); (fail_if_success exact Is.litF); exact Is.base))); intro _; rotate_left; intro _; rotate_right)))
    all_goals (try (exact N.ret_bool rfl (by (exact rvx)) rfl))
    all_goals (try contradiction)
    all_goals (try (exfalso; omega))
    have gu : u.2.list.Good u.1 := hu2
    have gp : p.2.list.Good u.1 := hp2
    have hun := gu.len
    have hum := gu.lim
    have hpn := gp.len
    have hpm := gp.lim
    have hu4 := cache_len hu2 (hu1 ▸ hfok)
    have hp4 := cache_len hp2 (hp1 ▸ hafter)
    repeat (any_goals (first | refine T.seq ?_ | refine T.region ?_ | refine TL.nil ?_ | refine N.next ?_ | refine N.inBlock ?_ | refine N.exit_same ?_ | refine N.exit_then ?_ | refine N.ret_then ?_ | refine N.ret_block ?_ | (apply N.exit_other; rfl) | refine T.ret ?_ | refine T.skip ?_ | refine T.exit ?_ | refine T.block ?_ | (apply T.cond_true; rfl) | (apply T.cond_false; rfl) | (apply T.test; rfl; (with_reducible (first | exact Is.ndec | exact Is.dec | exact Is.not | ((fail_if_success exact Is.litT); (fail_if_success exact Is.litF); exact Is.base))); intro _; rotate_left; intro _; rotate_right) | (apply TL.skip; rfl; rfl; rfl) | (apply TL.skip_none; rfl; rfl) | (apply TL.x; rfl; rfl; (apply X.alloc (d := 16); rfl; rfl; rfl); intro b16 _) | (apply TL.x; rfl; rfl; (apply X.alloc (d := 17); rfl; rfl; rfl); intro b17 _) | (apply TL.val; rfl; rfl; (first | exact vpure | exact vread)) | (apply TL.x; rfl; rfl; (first | exact xgrow | exact xput); intro _ _) | (apply TL.guard; rfl; rfl; rfl; (with_reducible (first | exact Is.ndec | exact Is.dec | exact Is.not | ((fail_if_success exact Is.litT); (fail_if_success exact Is.litF); exact Is.base))); intro _; rotate_left; intro _; rotate_right)))
    refine T.nilRow 67 7 ?_
    refine T.loop (G := List Entry × Value × Nat) (fun g => [(1, strV zone), (8, .pointer (some ⟨b8, 0, none⟩)), (11, .bool true), (12, .pointer (some ⟨b12, 0, none⟩)), (14, .pointer (some ⟨b14, 0, none⟩)), (16, .pointer (some ⟨b16, 0, none⟩)), (17, .pointer (some ⟨b17, 0, none⟩)), (71, u.2.list.v), (72, intV u.2.list.len), (73, intV g.2.2)]) (fun _ => u.1) (fun g => [.row g.2.1 67 7 g.1.length (encs g.1), .blk b17 46 [.slice none 0 0], .blk b16 46 [g.2.1], .blk b14 46 (enc u.2), .blk b12 46 (enc p.2), .blk b8 26 (enc a)]) (fun g => g.2.2 ≤ u.2.list.len ∧ g.1.length ≤ g.2.2 ∧ (∀ y ∈ g.1, Enc.good u.1 y) ∧ g.1.map Entry.c = (u.2.c.take g.2.2).filter (otherZ zone)) (fun g => u.2.list.len - g.2.2) ([], .slice none 0 0, 0) ⟨Nat.zero_le _, Nat.le_refl _, by simp, by simp⟩ (by (repeat (first | exact True.intro | refine ⟨rfl, ?_⟩ | refine Sub.int rfl (by omega) ?_))) rfl (by (repeat (first | exact List.Sublist.refl _ | exact List.nil_sublist _ | apply List.Sublist.cons_cons | apply List.Sublist.cons))) ?_
    rintro ⟨ys, yv, k⟩ ⟨hk, hyl, hyg, hys⟩
    simp only at hk hyl hyg hys ⊢
    by_cases hlt : k < u.2.list.len
    · have hk2 : k < u.2.list.els.length := by omega
      have hx := gu.els _ (List.getElem_mem hk2)
      have hck : u.2.c[k]? = some (u.2.list.els[k]'hk2).c := by
        show (u.2.list.els.map Entry.c)[k]? = _
        rw [List.getElem?_map, List.getElem?_eq_getElem hk2]; rfl
      have hup := filter_up (p := otherZ zone) hck
      repeat (any_goals (first | refine T.seq ?_ | refine T.region ?_ | refine TL.nil ?_ | refine N.next ?_ | refine N.inBlock ?_ | refine N.exit_same ?_ | refine N.exit_then ?_ | refine N.ret_then ?_ | refine N.ret_block ?_ | (apply N.exit_other; rfl) | refine T.ret ?_ | refine T.skip ?_ | refine T.exit ?_ | refine T.block ?_ | (apply T.cond_true; rfl) | (apply T.cond_false; rfl) | (apply T.test; rfl; (with_reducible (first | exact Is.ndec | exact Is.dec | exact Is.not | ((fail_if_success exact Is.litT); (fail_if_success exact Is.litF); exact Is.base))); intro _; rotate_left; intro _; rotate_right) | (apply TL.skip; rfl; rfl; rfl) | (apply TL.skip_none; rfl; rfl) | (apply TL.x; rfl; rfl; (apply X.storeTo 0 (enc (u.2.list.els[k]'hk2)); rfl; rfl; rfl; rfl; rfl; rfl; rfl; rfl; rfl; rfl); intro _ _) | (apply TL.x; rfl; rfl; (apply X.buildSlice1 (d := 84); rfl; rfl; rfl; rfl; rfl; rfl; rfl; rfl); intro b84 _) | (apply TL.x; rfl; rfl; (apply X.append1 2; rfl; rfl; rfl; rfl; rfl; rfl; rfl; rfl; rfl; exact List.Mem.head _; rfl; rfl; rfl; (refine Nat.le_trans (Nat.mul_le_mul_right _ (show _ ≤ 1000 by omega)) ?_; decide); omega); intro pa _) | (apply TL.val; rfl; rfl; (first | exact vpure | exact vread)) | (apply TL.x; rfl; rfl; (first | exact xgrow | exact xput); intro _ _) | (apply TL.guard; rfl; rfl; rfl; (with_reducible (first | exact Is.ndec | exact Is.dec | exact Is.not | ((fail_if_success exact Is.litT); (fail_if_success exact Is.litF); exact Is.base))); intro _; rotate_left; intro _; rotate_right)))
      all_goals (try (exfalso; omega))
      all_goals first
        | (have ht : otherZ zone (u.2.list.els[k]'hk2).c = true := decide_eq_true (show ¬ (u.2.list.els[k]'hk2).zone = zone by assumption)
           refine N.round (ys ++ [u.2.list.els[k]'hk2], .slice (some ⟨pa.1, 0, none⟩) (ys.length + 1) pa.2, k + 1) ⟨by show k + 1 ≤ _; omega, by simp; omega, ?_, ?_⟩ (by show u.2.list.len - (k + 1) < u.2.list.len - k; omega) (by (repeat (first | exact True.intro | refine ⟨rfl, ?_⟩ | refine Sub.int rfl (by omega) ?_))) rfl ?_
           · intro z hz
             rcases List.mem_append.1 hz with h | h
             · exact hyg z h
             · rw [List.mem_singleton.1 h]; exact hx
           · rw [hup, if_pos ht, List.map_append, hys]; rfl
           · simp only [List.length_append, List.length_cons, List.length_nil, Nat.zero_add, encs_snoc]
             first
               | exact List.Sublist.cons _ (List.Sublist.cons _ (List.Sublist.refl _))
               | (repeat (first | exact List.Sublist.refl _ | exact List.nil_sublist _ | apply List.Sublist.cons_cons | apply List.Sublist.cons)))
        | (have ht : otherZ zone (u.2.list.els[k]'hk2).c = false := decide_eq_false (by first | (exact fun h => h (by assumption)) | (intro h; exact absurd (show (u.2.list.els[k]'hk2).zone = zone by assumption) h))
           refine N.round (ys, yv, k + 1) ⟨by show k + 1 ≤ _; omega, by show ys.length ≤ k + 1; omega, hyg, ?_⟩ (by show u.2.list.len - (k + 1) < u.2.list.len - k; omega) (by (repeat (first | exact True.intro | refine ⟨rfl, ?_⟩ | refine Sub.int rfl (by omega) ?_))) rfl (List.Sublist.cons _ (List.Sublist.refl _))
           rw [hup, if_neg (by rw [ht]; decide), List.append_nil]
           exact hys)
    · have hke : k = u.2.list.len := by omega
      subst hke
      rw [List.take_of_length_le (by show (u.2.list.els.map Entry.c).length ≤ _; rw [List.length_map]; omega)] at hys
      apply T.frzRow 0 (els := ys); rfl; rfl; rfl; exact hyg
      intro H3 sl e1 e2 e3 hle3
      subst e1
      have gp3 := gp.mono hle3
      repeat (any_goals (first | refine T.seq ?_ | refine T.region ?_ | refine TL.nil ?_ | refine N.next ?_ | refine N.inBlock ?_ | refine N.exit_same ?_ | refine N.exit_then ?_ | refine N.ret_then ?_ | refine N.ret_block ?_ | (apply N.exit_other; rfl) | refine T.ret ?_ | refine T.skip ?_ | refine T.exit ?_ | refine T.block ?_ | (apply T.cond_true; rfl) | (apply T.cond_false; rfl) | (apply T.test; rfl; (with_reducible (first | exact Is.ndec | exact Is.dec | exact Is.not | ((fail_if_success exact Is.litT); (fail_if_success exact Is.litF); exact Is.base))); intro _; rotate_left; intro _; rotate_right) | (apply TL.skip; rfl; rfl; rfl) | (apply TL.skip_none; rfl; rfl) | (apply TL.val; rfl; rfl; (first | exact vpure | exact vread)) | (apply TL.x; rfl; rfl; (first | exact xgrow | exact xput); intro _ _) | (apply TL.guard; rfl; rfl; rfl; (with_reducible (first | exact Is.ndec | exact Is.dec | exact Is.not | ((fail_if_success exact Is.litT); (fail_if_success exact Is.litF); exact Is.base))); intro _; rotate_left; intro _; rotate_right)))
      all_goals (try (exfalso; omega))
      refine T.nilRow 67 7 ?_
      refine T.loop (G := List Entry × Value × Nat) (fun g => [(8, .pointer (some ⟨b8, 0, none⟩)), (1, strV zone), (11, .bool true), (12, .pointer (some ⟨b12, 0, none⟩)), (14, .pointer (some ⟨b14, 0, none⟩)), (16, .pointer (some ⟨b16, 0, none⟩)), (17, .pointer (some ⟨b17, 0, none⟩)), (89, p.2.list.v), (90, intV p.2.list.len), (91, intV g.2.2)]) (fun _ => H3) (fun g => [.row g.2.1 67 7 g.1.length (encs g.1), .blk b17 46 [g.2.1], .blk b16 46 [sl.v], .blk b14 46 (enc u.2), .blk b12 46 (enc p.2), .blk b8 26 (enc a)]) (fun g => g.2.2 ≤ p.2.list.len ∧ g.1.length ≤ g.2.2 ∧ (∀ y ∈ g.1, Enc.good H3 y) ∧ g.1.map Entry.c = (p.2.c.take g.2.2).filter (otherZ zone)) (fun g => p.2.list.len - g.2.2) ([], .slice none 0 0, 0) ⟨Nat.zero_le _, Nat.le_refl _, by simp, by simp⟩ (by (repeat (first | exact True.intro | refine ⟨rfl, ?_⟩ | refine Sub.int rfl (by omega) ?_))) rfl (by (repeat (first | exact List.Sublist.refl _ | exact List.nil_sublist _ | apply List.Sublist.cons_cons | apply List.Sublist.cons))) ?_
      rintro ⟨zs, zv, j⟩ ⟨hj, hzl, hzg, hzs⟩
      simp only at hj hzl hzg hzs ⊢
      by_cases hlt : j < p.2.list.len
      · have hk2 : j < p.2.list.els.length := by omega
        have hx := gp3.els _ (List.getElem_mem hk2)
        have hck : p.2.c[j]? = some (p.2.list.els[j]'hk2).c := by
          show (p.2.list.els.map Entry.c)[j]? = _
          rw [List.getElem?_map, List.getElem?_eq_getElem hk2]; rfl
        have hup := filter_up (p := otherZ zone) hck
        repeat (any_goals (first | refine T.seq ?_ | refine T.region ?_ | refine TL.nil ?_ | refine N.next ?_ | refine N.inBlock ?_ | refine N.exit_same ?_ | refine N.exit_then ?_ | refine N.ret_then ?_ | refine N.ret_block ?_ | (apply N.exit_other; rfl) | refine T.ret ?_ | refine T.skip ?_ | refine T.exit ?_ | refine T.block ?_ | (apply T.cond_true; rfl) | (apply T.cond_false; rfl) | (apply T.test; rfl; (with_reducible (first | exact Is.ndec | exact Is.dec | exact Is.not | ((fail_if_success exact Is.litT); (fail_if_success exact Is.litF); exact Is.base))); intro _; rotate_left; intro _; rotate_right) | (apply TL.skip; rfl; rfl; rfl) | (apply TL.skip_none; rfl; rfl) | (apply TL.x; rfl; rfl; (apply X.storeTo 0 (enc (p.2.list.els[j]'hk2)); rfl; rfl; rfl; rfl; rfl; rfl; rfl; rfl; rfl; rfl); intro _ _) | (apply TL.x; rfl; rfl; (apply X.buildSlice1 (d := 102); rfl; rfl; rfl; rfl; rfl; rfl; rfl; rfl); intro b84 _) | (apply TL.x; rfl; rfl; (apply X.append1 2; rfl; rfl; rfl; rfl; rfl; rfl; rfl; rfl; rfl; exact List.Mem.head _; rfl; rfl; rfl; (refine Nat.le_trans (Nat.mul_le_mul_right _ (show _ ≤ 1000 by omega)) ?_; decide); omega); intro pa _) | (apply TL.val; rfl; rfl; (first | exact vpure | exact vread)) | (apply TL.x; rfl; rfl; (first | exact xgrow | exact xput); intro _ _) | (apply TL.guard; rfl; rfl; rfl; (with_reducible (first | exact Is.ndec | exact Is.dec | exact Is.not | ((fail_if_success exact Is.litT); (fail_if_success exact Is.litF); exact Is.base))); intro _; rotate_left; intro _; rotate_right)))
        all_goals (try (exfalso; omega))
        all_goals first
          | (have ht : otherZ zone (p.2.list.els[j]'hk2).c = true := decide_eq_true (show ¬ (p.2.list.els[j]'hk2).zone = zone by assumption)
             refine N.round (zs ++ [p.2.list.els[j]'hk2], .slice (some ⟨pa.1, 0, none⟩) (zs.length + 1) pa.2, j + 1) ⟨by show j + 1 ≤ _; omega, by simp; omega, ?_, ?_⟩ (by show p.2.list.len - (j + 1) < p.2.list.len - j; omega) (by (repeat (first | exact True.intro | refine ⟨rfl, ?_⟩ | refine Sub.int rfl (by omega) ?_))) rfl ?_
             · intro z hz
               rcases List.mem_append.1 hz with h | h
               · exact hzg z h
               · rw [List.mem_singleton.1 h]; exact hx
             · rw [hup, if_pos ht, List.map_append, hzs]; rfl
             · simp only [List.length_append, List.length_cons, List.length_nil, Nat.zero_add, encs_snoc]
               first
                 | exact List.Sublist.cons _ (List.Sublist.cons _ (List.Sublist.refl _))
                 | (repeat (first | exact List.Sublist.refl _ | exact List.nil_sublist _ | apply List.Sublist.cons_cons | apply List.Sublist.cons)))
          | (have ht : otherZ zone (p.2.list.els[j]'hk2).c = false := decide_eq_false (by first | (exact fun h => h (by assumption)) | (intro h; exact absurd (show (p.2.list.els[j]'hk2).zone = zone by assumption) h))
             refine N.round (zs, zv, j + 1) ⟨by show j + 1 ≤ _; omega, by show zs.length ≤ j + 1; omega, hzg, ?_⟩ (by show p.2.list.len - (j + 1) < p.2.list.len - j; omega) (by (repeat (first | exact True.intro | refine ⟨rfl, ?_⟩ | refine Sub.int rfl (by omega) ?_))) rfl (List.Sublist.cons _ (List.Sublist.refl _))
             rw [hup, if_neg (by rw [ht]; decide), List.append_nil]
             exact hzs)
      · have hke : j = p.2.list.len := by omega
        subst hke
        rw [List.take_of_length_le (by show (p.2.list.els.map Entry.c).length ≤ _; rw [List.length_map]; omega)] at hzs
        apply T.frzRow 0 (els := zs); rfl; rfl; rfl; exact hzg
        intro H4 s2 f1 f2 f3 hle4
        subst f1
        have hE : decide ((⟨sl⟩ : Cache).c = (⟨s2⟩ : Cache).c) = true := by
          refine decide_eq_true ?_
          show sl.els.map Entry.c = s2.els.map Entry.c
          rw [e2, f2, hys, hzs, hu1, hp1]
          exact hoth.symm
        have gsl : Enc.good H4 (⟨sl⟩ : Cache) := e3.mono hle4
        have gs2 : Enc.good H4 (⟨s2⟩ : Cache) := f3
        have gd : Enc.good H4 p.2 := gp3.mono hle4
        have gc : Enc.good H4 u.2 := (gu.mono hle3).mono hle4
        by_cases h7 : a.kind = 7
        · have hE2 : decide (p.2.c = u.2.c) = true := decide_eq_true (by rw [hp1, hu1]; exact href h7)
          repeat (any_goals (first | refine T.seq ?_ | refine T.region ?_ | refine TL.nil ?_ | refine N.next ?_ | refine N.inBlock ?_ | refine N.exit_same ?_ | refine N.exit_then ?_ | refine N.ret_then ?_ | refine N.ret_block ?_ | (apply N.exit_other; rfl) | refine T.ret ?_ | refine T.skip ?_ | refine T.exit ?_ | refine T.block ?_ | (apply T.cond_true; rfl) | (apply T.cond_false; rfl) | (apply T.test; rfl; (with_reducible (first | exact Is.ndec | exact Is.dec | exact Is.not | ((fail_if_success exact Is.litT); (fail_if_success exact Is.litF); exact Is.base))); intro _; rotate_left; intro _; rotate_right) | (apply TL.skip; rfl; rfl; rfl) | (apply TL.skip_none; rfl; rfl) | (apply TL.callE (f := 35) [.agg (enc (⟨sl⟩ : Cache)).toArray, .agg (enc (⟨s2⟩ : Cache)).toArray] Tryz.call35; rfl; rfl; rfl; rfl; (exact fun _ hs => c_SameF ⟨sl⟩ ⟨s2⟩ hE hs.sat gsl gs2)) | (apply TL.callE (f := 35) [.agg (enc p.2).toArray, .agg (enc u.2).toArray] Tryz.call35; rfl; rfl; rfl; rfl; (exact fun _ hs => c_SameF p.2 u.2 hE2 hs.sat gd gc)) | (apply TL.val; rfl; rfl; (first | exact vpure | exact vread)) | (apply TL.x; rfl; rfl; (first | exact xgrow | exact xput); intro _ _) | (apply TL.guard; rfl; rfl; rfl; (with_reducible (first | exact Is.ndec | exact Is.dec | exact Is.not | ((fail_if_success exact Is.litT); (fail_if_success exact Is.litF); exact Is.base))); intro _; rotate_left; intro _; rotate_right)))
          all_goals (try (exfalso; omega))
          all_goals (try contradiction)
          all_goals exact N.ret_bool rfl (by (exact rvx)) rfl
        · repeat (any_goals (first | refine T.seq ?_ | refine T.region ?_ | refine TL.nil ?_ | refine N.next ?_ | refine N.inBlock ?_ | refine N.exit_same ?_ | refine N.exit_then ?_ | refine N.ret_then ?_ | refine N.ret_block ?_ | (apply N.exit_other; rfl) | refine T.ret ?_ | refine T.skip ?_ | refine T.exit ?_ | refine T.block ?_ | (apply T.cond_true; rfl) | (apply T.cond_false; rfl) | (apply T.test; rfl; (with_reducible (first | exact Is.ndec | exact Is.dec | exact Is.not | ((fail_if_success exact Is.litT); (fail_if_success exact Is.litF); exact Is.base))); intro _; rotate_left; intro _; rotate_right) | (apply TL.skip; rfl; rfl; rfl) | (apply TL.skip_none; rfl; rfl) | (apply TL.callE (f := 35) [.agg (enc (⟨sl⟩ : Cache)).toArray, .agg (enc (⟨s2⟩ : Cache)).toArray] Tryz.call35; rfl; rfl; rfl; rfl; (exact fun _ hs => c_SameF ⟨sl⟩ ⟨s2⟩ hE hs.sat gsl gs2)) | (apply TL.callE (f := 35) [.agg (enc p.2).toArray, .agg (enc u.2).toArray] Tryz.call35; rfl; rfl; rfl; rfl; (exact fun _ hs => c_Same22 p.2 u.2 _ _ hs.sat gd gc)) | (apply TL.val; rfl; rfl; (first | exact vpure | exact vread)) | (apply TL.x; rfl; rfl; (first | exact xgrow | exact xput); intro _ _) | (apply TL.guard; rfl; rfl; rfl; (with_reducible (first | exact Is.ndec | exact Is.dec | exact Is.not | ((fail_if_success exact Is.litT); (fail_if_success exact Is.litF); exact Is.base))); intro _; rotate_left; intro _; rotate_right)))
          all_goals (try (exfalso; omega))
          all_goals (try contradiction)
          all_goals exact N.ret_bool rfl (by (exact rvx)) rfl
end Go.Proofs.YtogcofeencgipaaGreatDoor
