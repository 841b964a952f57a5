/- The law PrefetchCounts. -/
import Derived.Test.YtogcofeencgipaaGreatDoorKNT
import Derived.Test.YtogcofeencgipaaGreatDoorZQM
import Derived.Test.YtogcofeencgipaaGreatDoorZNYB
import Derived.Test.YtogcofeencgipaaGreatDoorZQW
namespace Go.Proofs.YtogcofeencgipaaGreatDoor
set_option linter.unusedVariables false
set_option linter.unusedSimpArgs false
open Go Go.RowKit
open Enc (enc)
set_option maxRecDepth 20000
theorem c_SameUsesV (a b : Slc Use) (h : a.els = b.els) {H : Hp} {w : World} (hs : Sat H w) (ha : a.Good H) (hb : b.Good H) : Calls Tryz.prog 34 #[a.v, b.v] w (Ret w (.bool true)) := by
  have := c_SameUses a b H w hs ha hb
  rwa [decide_eq_true h] at this
theorem due_yes {c : List EntryC} {uses : List Use} {now early often : Int} (h1 : usesOK uses = true) (h2 : cacheOK c = true) (h3 : 0 ≤ now ∧ now ≤ 20000000) (h4 : 0 ≤ early ∧ early ≤ 1000000) (h5 : 0 ≤ often ∧ often ≤ 1000000) : dueC c uses now early often = (dueL uses now early often c, 0) := by
  unfold dueC isT
  rw [h1, h2, decide_eq_true h3, decide_eq_true ⟨h4.1, h4.2, h5.1, h5.2⟩]; rfl
theorem teach_err : ∀ {ms : List (List EntryC → List EntryC × Int)} {c : List EntryC}, (teachAll ms c).2 ≠ 0 → (teachAll ms c).1 = []
  | [], _, h => absurd rfl h
  | f :: t, c, h => by
    unfold teachAll at h ⊢
    split
    · rename_i h1
      rw [if_pos h1] at h
      exact teach_err h
    · rfl
def stepR (now : Int) (e : EntryC) (acc : List EntryC × Bool) (o : EntryC) : List EntryC × Bool :=
  if o.til ≤ now then acc else if alikeC o e = false then (acc.1 ++ [o], acc.2) else if now < e.til then (acc.1 ++ [e], true) else acc
def accR (now : Int) (e : EntryC) (l : List EntryC) : List EntryC × Bool := l.foldl (stepR now e) ([], false)
def outR (now : Int) (e : EntryC) (l : List EntryC) : List EntryC := if (accR now e l).2 = false ∧ now < e.til then (accR now e l).1 ++ [e] else (accR now e l).1
def learnR (l : List EntryC) (e : EntryC) (now : Int) : List EntryC × Int := if 400 < (outR now e l).length then ([], 41) else (outR now e l, 0)
theorem accR_up {now : Int} {e x : EntryC} {l : List EntryC} {k : Nat} (h : l[k]? = some x) : accR now e (l.take (k + 1)) = stepR now e (accR now e (l.take k)) x := by
  unfold accR
  rw [List.take_add_one, h, List.foldl_append]; rfl
theorem accR_eq {now : Int} {e : EntryC} : ∀ l : List EntryC, accR now e l = ((freshC l now).filterMap fun o => if alikeC o e = false then some o else if now < e.til then some e else none, decide (now < e.til) && (freshC l now).any fun o => alikeC o e) := by
  intro l
  have key : ∀ (l : List EntryC) (acc : List EntryC × Bool), l.foldl (stepR now e) acc = (acc.1 ++ (freshC l now).filterMap fun o => if alikeC o e = false then some o else if now < e.til then some e else none, acc.2 || (decide (now < e.til) && (freshC l now).any fun o => alikeC o e)) := by
    intro l
    induction l with
    | nil => intro acc; simp [freshC]
    | cons x l ih =>
      intro acc
      rw [List.foldl_cons, ih]
      have hfr : freshC (x :: l) now = if now < x.til then x :: freshC l now else freshC l now := by
        unfold freshC
        rw [List.filter_cons]
        by_cases h : now < x.til <;> simp [h]
      rw [hfr]
      unfold stepR
      by_cases h1 : x.til ≤ now
      · rw [if_pos h1, if_neg (show ¬ now < x.til by omega)]
      · rw [if_neg h1, if_pos (show now < x.til by omega)]
        cases ha : alikeC x e with
        | false => simp [ha]
        | true =>
          by_cases h2 : now < e.til
          · simp [ha, h2]
          · simp [ha, h2]
  unfold accR
  rw [key]; simp
theorem filterMap_no {l : List EntryC} {e : EntryC} : (l.filterMap fun o => if alikeC o e = false then some o else none) = l.filter fun o => !alikeC o e := by
  induction l with
  | nil => rfl
  | cons x l ih =>
    rw [List.filterMap_cons, List.filter_cons, ih]
    cases alikeC x e <;> rfl
theorem filterMap_yes {l : List EntryC} {e : EntryC} : (l.filterMap fun o => if alikeC o e = false then some o else some e) = l.map fun o => if alikeC o e then e else o := by
  induction l with
  | nil => rfl
  | cons x l ih =>
    rw [List.filterMap_cons, List.map_cons, ih]
    cases alikeC x e <;> rfl
theorem map_none {l : List EntryC} {e : EntryC} (h : ¬ (l.any fun o => alikeC o e) = true) : (l.map fun o => if alikeC o e then e else o) = l := by
  induction l with
  | nil => rfl
  | cons x l ih =>
    rw [List.any_cons, Bool.or_eq_true, not_or] at h
    rw [List.map_cons, if_neg h.1, ih h.2]
theorem learnR_eq {l : List EntryC} {e : EntryC} {now : Int} (hl : l.length ≤ 400) : learnR l e now = learnC l e now := by
  have hf : (freshC l now).length ≤ 400 := Nat.le_trans (fresh_sub l now).length_le hl
  unfold learnR outR learnC
  rw [accR_eq]
  by_cases h1 : e.til ≤ now
  · have h2 : ¬ now < e.til := by omega
    simp only [h2, and_false, if_false, if_pos h1, filterMap_no]
    rw [if_neg]
    have := List.length_filter_le (fun o => !alikeC o e) (freshC l now)
    omega
  · have h2 : now < e.til := by omega
    simp only [h2, if_true, if_neg h1, filterMap_yes, decide_true, Bool.true_and, and_true]
    by_cases h3 : ((freshC l now).any fun o => alikeC o e) = true
    · simp only [h3, if_true, Bool.true_eq_false, if_false]
      rw [if_neg (by rw [List.length_map]; omega)]
    · have h4 : ((freshC l now).any fun o => alikeC o e) = false := by simpa using h3
      rw [map_none h3]
      simp only [h4, if_true, Bool.false_eq_true, if_false]
      rw [List.length_append]
      show (if 400 < (freshC l now).length + 1 then _ else _) = _
      by_cases h5 : 400 ≤ (freshC l now).length
      · rw [if_pos (by omega), if_pos h5]
      · rw [if_neg (by omega), if_neg h5]
theorem c_Time22B {now : Int} {v : Bool} (h : isT now = v) {H : Hp} {w : World} (hs : Sat H w) : Calls Tryz.prog 81 #[intV now] w (Ret w (.bool v)) := by
  rw [← h]; exact c_Time22 now H w hs
theorem row_end {w0 w : World} {H0 H : Hp} {L : List Loc} {v : Value} {n : Nat} {els : List Entry} {r : List EntryC} (hst : St w0 H0 H L w) (hsub : List.Sublist [.row v 67 7 n (encs els)] L) (hl : els.length = n) (hg : ∀ x ∈ els, Enc.good H x) (hr : els.map Entry.c = r) : Caches w0 H0 (r, 0) (.returned (.tuple #[.agg #[v], intV 0])) w := by
  subst hr
  obtain ⟨H', s, h1, h2, h3, h4, h5⟩ := (hst.sub hsub).freezeRow rfl hl hg
  exact ⟨(H', ⟨s⟩), ⟨by show s.els.map Entry.c = _; rw [h2], h3⟩, by rw [← h1]; rfl, h5.fresh⟩
set_option maxHeartbeats 8000000 in
theorem c_Clean22 (c : Cache) (now : Int) (H : Hp) (w : World) (hs : Sat H w) (hg : Enc.good H c) : Calls Tryz.prog 94 #[.agg (enc c).toArray, intV now] w (Caches w H (cleanC c.c now)) := by
  have gl : c.list.Good H := hg
  have hlen := gl.len
  have hlim := gl.lim
  refine T.enter (vs := [.agg (enc c).toArray, intV now]) (H := H) Tryz.func94 rfl rfl rfl hs ?_
  by_cases hv : cacheOK c.c = true ∧ isT now = true
  · obtain ⟨h1, h2⟩ := hv
    have hcl := clean_yes h1 (of_decide_eq_true h2)
    rw [hcl]
    have hm := cache_len hg h1
    repeat (any_goals (first | refine T.seq ?_ | refine T.region ?_ | (apply T.regionD wide; rfl) | refine TL.nil ?_ | refine N.next ?_ | refine N.inBlock ?_ | refine N.exit_same ?_ | refine N.exit_then ?_ | refine N.ret_then ?_ | refine N.ret_block ?_ | (apply N.exit_other; rfl) | refine T.ret ?_ | refine T.skip ?_ | refine T.exit ?_ | refine T.block ?_ | (apply T.cond_true; rfl) | (apply T.cond_false; rfl) | (apply T.test; rfl; (exact visX); intro _; rotate_left; intro _; rotate_right) | (apply TL.skip; rfl; rfl; rfl) | (apply TL.skip_none; rfl; rfl) | (apply GT.skip; rfl; rfl; rfl; decide +kernel) | (apply TL.x; rfl; rfl; (apply X.box (d := 2); rfl; rfl; rfl); intro b2 _) | (apply TL.x; rfl; rfl; (apply X.alloc (d := 4); rfl; rfl; rfl); intro b4 _) | (apply TL.x; rfl; rfl; (apply X.alloc (d := 6); rfl; rfl; rfl); intro b6 _) | (apply TL.callE (f := 80) [.agg (enc c).toArray] Tryz.call80; rfl; rfl; rfl; rfl; (exact fun _ hs => h1 ▸ c_Valid22 c _ _ hs.sat hg)) | (apply TL.callE (f := 81) [intV now] Tryz.call81; rfl; rfl; rfl; rfl; (exact fun _ hs => c_Time22B h2 hs.sat)) | (apply TL.val; rfl; rfl; (apply V.build; (iterate 6 rfl))) | (apply GT.pure; rfl; rfl; rfl; rfl; (apply V.build; (iterate 6 rfl)); decide +kernel) | (apply TL.val; rfl; rfl; (first | exact vpure | exact vread)) | (apply GT.pure; rfl; rfl; rfl; rfl; exact vpure; decide +kernel) | (apply GT.read; rfl; rfl; rfl; rfl; (first | exact vpure | exact vread); decide +kernel) | (apply GT.done; decide +kernel; apply N.ofQ) | (apply GT.adv; rfl) | (apply TL.x; rfl; rfl; (first | exact xgrow | exact xput); intro _ _) | (apply GS.grow; rfl; rfl; exact xgrow; intro _ _) | (apply GS.eff; rfl; decide +kernel; rfl; exact xput; intro _ _) | (apply TL.guard; rfl; rfl; rfl; (exact visX); intro _; rotate_left; intro _; rotate_right) | (apply GT.guard; rfl; rfl; rfl; rfl; (exact visX); intro _; rotate_left; intro _; rotate_right) | (apply GT.fork1; decide +kernel)))
    all_goals (try contradiction)
    refine T.nilRow 67 7 ?_
    refine T.loop (G := List Entry × Value × Nat) (fun g => [(1, intV now), (2, .pointer (some ⟨b2, 0, none⟩)), (4, .pointer (some ⟨b4, 0, none⟩)), (5, intV 0), (6, .pointer (some ⟨b6, 0, none⟩)), (7, intV g.2.2)]) (fun _ => H) (fun g => [.row g.2.1 67 7 g.1.length (encs g.1), .blk b6 46 [g.2.1], .blk b4 46 [.slice none 0 0], .blk b2 46 (enc c)]) (fun g => g.2.2 ≤ c.list.len ∧ g.1.length ≤ g.2.2 ∧ (∀ y ∈ g.1, Enc.good H y) ∧ g.1.map Entry.c = (c.c.take g.2.2).filter fun e => decide (now < e.til)) (fun g => c.list.len - g.2.2) ([], .slice none 0 0, 0) ⟨Nat.zero_le _, Nat.le_refl _, by simp, by simp⟩ (by exact vsub0) rfl (by exact vsubX) ?_
    rintro ⟨ys, yv, k⟩ ⟨hk, hyl, hyg, hys⟩
    simp only at hk hyl hyg hys ⊢
    by_cases hlt : k < c.list.len
    · have hk2 : k < c.list.els.length := by omega
      have hx := gl.els _ (List.getElem_mem hk2)
      have hck : c.c[k]? = some (c.list.els[k]'hk2).c := by
        show (c.list.els.map Entry.c)[k]? = _
        rw [List.getElem?_map, List.getElem?_eq_getElem hk2]; rfl
      have hup := filter_up (p := fun e : EntryC => decide (now < e.til)) hck
      repeat (any_goals (first | refine T.seq ?_ | refine T.region ?_ | (apply T.regionD wide; rfl) | refine TL.nil ?_ | refine N.next ?_ | refine N.inBlock ?_ | refine N.exit_same ?_ | refine N.exit_then ?_ | refine N.ret_then ?_ | refine N.ret_block ?_ | (apply N.exit_other; rfl) | refine T.ret ?_ | refine T.skip ?_ | refine T.exit ?_ | refine T.block ?_ | (apply T.cond_true; rfl) | (apply T.cond_false; rfl) | (apply T.test; rfl; (exact visX); intro _; rotate_left; intro _; rotate_right) | (apply TL.skip; rfl; rfl; rfl) | (apply TL.skip_none; rfl; rfl) | (apply GT.skip; rfl; rfl; rfl; decide +kernel) | (apply GS.eff; rfl; decide +kernel; rfl; (apply X.append1 1; (iterate 9 rfl); exact List.Mem.head _; rfl; rfl; rfl; (refine Nat.le_trans (Nat.mul_le_mul_right _ (show _ ≤ 1000 by omega)) ?_; decide); omega); intro pa _) | (apply TL.val; rfl; rfl; (first | exact vpure | exact vread)) | (apply GT.pure; rfl; rfl; rfl; rfl; exact vpure; decide +kernel) | (apply GT.read; rfl; rfl; rfl; rfl; (first | exact vpure | exact vread); decide +kernel) | (apply GT.done; decide +kernel; apply N.ofQ) | (apply GT.adv; rfl) | (apply TL.x; rfl; rfl; (first | exact xgrow | exact xput); intro _ _) | (apply GS.grow; rfl; rfl; exact xgrow; intro _ _) | (apply GS.eff; rfl; decide +kernel; rfl; exact xput; intro _ _) | (apply TL.guard; rfl; rfl; rfl; (exact visX); intro _; rotate_left; intro _; rotate_right) | (apply GT.guard; rfl; rfl; rfl; rfl; (exact visX); intro _; rotate_left; intro _; rotate_right) | (apply GT.fork1; decide +kernel)))
      all_goals (try (exfalso; omega))
      all_goals first
        | (have ht : decide (now < (c.list.els[k]'hk2).c.til) = true := decide_eq_true (show now < (c.list.els[k]'hk2).til by assumption)
           refine N.round (ys ++ [c.list.els[k]'hk2], .slice (some ⟨pa.1, 0, none⟩) (ys.length + 1) pa.2, k + 1) ⟨by show k + 1 ≤ _; omega, by simp; omega, ?_, ?_⟩ (by show c.list.len - (k + 1) < c.list.len - k; omega) (by exact vsub0) rfl ?_
           · intro z hz
             rcases List.mem_append.1 hz with h | h
             · exact hyg z h
             · rw [List.mem_singleton.1 h]; exact hx
           · rw [hup, if_pos ht, List.map_append, hys]; rfl
           · simp only [List.length_append, List.length_cons, List.length_nil, Nat.zero_add, encs_snoc]
             (repeat (first | exact List.Sublist.refl _ | exact List.nil_sublist _ | apply List.Sublist.cons_cons | apply List.Sublist.cons)))
        | (have ht : ¬ decide (now < (c.list.els[k]'hk2).c.til) = true := by
             rw [decide_eq_true_iff]
             show ¬ now < (c.list.els[k]'hk2).til
             omega
           refine N.round (ys, yv, k + 1) ⟨by show k + 1 ≤ _; omega, by show ys.length ≤ k + 1; omega, hyg, ?_⟩ (by show c.list.len - (k + 1) < c.list.len - k; omega) (by exact vsub0) rfl (by exact vsubX)
           rw [hup, if_neg ht, List.append_nil]
           exact hys)
    · have hke : k = c.list.len := by omega
      subst hke
      rw [List.take_of_length_le (by show (c.list.els.map Entry.c).length ≤ _; rw [List.length_map]; omega)] at hys
      apply T.frzRow 0 (els := ys); rfl; rfl; rfl; exact hyg
      intro H3 sl e1 e2 e3 hle3
      subst e1
      repeat (any_goals (first | refine T.seq ?_ | refine T.region ?_ | (apply T.regionD wide; rfl) | refine TL.nil ?_ | refine N.next ?_ | refine N.inBlock ?_ | refine N.exit_same ?_ | refine N.exit_then ?_ | refine N.ret_then ?_ | refine N.ret_block ?_ | (apply N.exit_other; rfl) | refine T.ret ?_ | refine T.skip ?_ | refine T.exit ?_ | refine T.block ?_ | (apply T.cond_true; rfl) | (apply T.cond_false; rfl) | (apply T.test; rfl; (exact visX); intro _; rotate_left; intro _; rotate_right) | (apply TL.skip; rfl; rfl; rfl) | (apply TL.skip_none; rfl; rfl) | (apply GT.skip; rfl; rfl; rfl; decide +kernel) | (apply TL.x; rfl; rfl; (apply X.storeTo 1 [sl.v]; (iterate 10 rfl)); intro _ _) | (apply GS.eff; rfl; decide +kernel; rfl; (apply X.storeTo 1 [sl.v]; (iterate 10 rfl)); intro _ _) | (apply TL.val; rfl; rfl; (first | exact vpure | exact vread)) | (apply GT.pure; rfl; rfl; rfl; rfl; exact vpure; decide +kernel) | (apply GT.read; rfl; rfl; rfl; rfl; (first | exact vpure | exact vread); decide +kernel) | (apply GT.done; decide +kernel; apply N.ofQ) | (apply GT.adv; rfl) | (apply TL.x; rfl; rfl; (first | exact xgrow | exact xput); intro _ _) | (apply GS.grow; rfl; rfl; exact xgrow; intro _ _) | (apply GS.eff; rfl; decide +kernel; rfl; exact xput; intro _ _) | (apply TL.guard; rfl; rfl; rfl; (exact visX); intro _; rotate_left; intro _; rotate_right) | (apply GT.guard; rfl; rfl; rfl; rfl; (exact visX); intro _; rotate_left; intro _; rotate_right) | (apply GT.fork1; decide +kernel)))
      all_goals (try (exfalso; omega))
      refine N.ret2 rfl (by (exact rvx)) (by (exact rvx)) fun w hst => ⟨(H3, ⟨sl⟩), ⟨?_, e3⟩, rfl, hst.fresh⟩
      show sl.els.map Entry.c = _
      rw [e2, hys]; rfl
  · have hcl : cleanC c.c now = ([], 1) := by
      unfold cleanC
      rw [if_pos]
      cases h1 : cacheOK c.c <;> cases h2 : isT now <;> first | rfl | exact absurd ⟨h1, h2⟩ hv
    obtain ⟨v1, h1⟩ : ∃ v, cacheOK c.c = v := ⟨_, rfl⟩
    obtain ⟨v2, h2⟩ : ∃ v, isT now = v := ⟨_, rfl⟩
    rw [h1, h2] at hv
    repeat (any_goals (first | refine T.seq ?_ | refine T.region ?_ | (apply T.regionD wide; rfl) | refine TL.nil ?_ | refine N.next ?_ | refine N.inBlock ?_ | refine N.exit_same ?_ | refine N.exit_then ?_ | refine N.ret_then ?_ | refine N.ret_block ?_ | (apply N.exit_other; rfl) | refine T.ret ?_ | refine T.skip ?_ | refine T.exit ?_ | refine T.block ?_ | (apply T.cond_true; rfl) | (apply T.cond_false; rfl) | (apply T.test; rfl; (exact visX); intro _; rotate_left; intro _; rotate_right) | (apply TL.skip; rfl; rfl; rfl) | (apply TL.skip_none; rfl; rfl) | (apply GT.skip; rfl; rfl; rfl; decide +kernel) | (apply TL.x; rfl; rfl; (apply X.box (d := 2); rfl; rfl; rfl); intro b2 _) | (apply TL.x; rfl; rfl; (apply X.alloc (d := 4); rfl; rfl; rfl); intro b4 _) | (apply TL.x; rfl; rfl; (apply X.alloc (d := 6); rfl; rfl; rfl); intro b6 _) | (apply TL.callE (f := 80) [.agg (enc c).toArray] Tryz.call80; rfl; rfl; rfl; rfl; (exact fun _ hs => h1 ▸ c_Valid22 c _ _ hs.sat hg)) | (apply TL.callE (f := 81) [intV now] Tryz.call81; rfl; rfl; rfl; rfl; (exact fun _ hs => c_Time22B h2 hs.sat)) | (apply TL.val; rfl; rfl; (apply V.build; (iterate 6 rfl))) | (apply GT.pure; rfl; rfl; rfl; rfl; (apply V.build; (iterate 6 rfl)); decide +kernel) | (apply TL.val; rfl; rfl; (first | exact vpure | exact vread)) | (apply GT.pure; rfl; rfl; rfl; rfl; exact vpure; decide +kernel) | (apply GT.read; rfl; rfl; rfl; rfl; (first | exact vpure | exact vread); decide +kernel) | (apply GT.done; decide +kernel; apply N.ofQ) | (apply GT.adv; rfl) | (apply TL.x; rfl; rfl; (first | exact xgrow | exact xput); intro _ _) | (apply GS.grow; rfl; rfl; exact xgrow; intro _ _) | (apply GS.eff; rfl; decide +kernel; rfl; exact xput; intro _ _) | (apply TL.guard; rfl; rfl; rfl; (exact visX); intro _; rotate_left; intro _; rotate_right) | (apply GT.guard; rfl; rfl; rfl; rfl; (exact visX); intro _; rotate_left; intro _; rotate_right) | (apply GT.fork1; decide +kernel)))
    all_goals first
      | (refine N.ret2 rfl (by (exact rvx)) (by (exact rvx)) fun w1 hst => ?_
         exact zero_end hst hcl)
      | (exfalso; simp_all; done)
/-- The entry that 'Learn' puts in. -/
def putE (e : Entry) (now : Int) : EntryC := ⟨e.signed.c, e.zone, untilC e.signed.c now⟩
set_option maxHeartbeats 16000000 in
theorem c_Learn22 (c : Cache) (e : Entry) (now : Int) (H : Hp) (w : World) (hs : Sat H w) (hg : Enc.good H c) (he : Enc.good H e) (hm : c.list.len ≤ 400) (hnow : 0 ≤ now ∧ now ≤ 20000000) (hlf : 0 ≤ e.signed.set.life ∧ e.signed.set.life ≤ 100000) (hsg : ∀ g ∈ e.signed.sigs.els, 0 ≤ g.til ∧ g.til ≤ 20000000) : Calls Tryz.prog 157 #[.agg (enc c).toArray, .agg (enc e).toArray, intV now] w (Caches w H (learnR c.c (putE e now) now)) := by
  have gl : c.list.Good H := hg
  have hlen := gl.len
  have hlim := gl.lim
  have gs1 : Enc.good H e.signed := he.1
  refine T.enter (vs := [.agg (enc c).toArray, .agg (enc e).toArray, intV now]) (H := H) Tryz.func157 rfl rfl rfl hs ?_
  have hmx : maxI e.signed.set.life 1 = if e.signed.set.life = 0 then 1 else e.signed.set.life := by unfold maxI; split <;> split <;> omega
  have hmb : 1 ≤ maxI e.signed.set.life 1 ∧ maxI e.signed.set.life 1 ≤ 100000 := by unfold maxI; split <;> omega
  repeat (any_goals (first | (apply T.seqU 4; rfl) | refine T.region ?_ | (apply T.regionD wide; rfl) | refine TL.nil ?_ | refine N.next ?_ | refine N.inBlock ?_ | refine N.exit_same ?_ | refine N.exit_then ?_ | refine N.ret_then ?_ | refine N.ret_block ?_ | (apply N.exit_other; rfl) | refine T.ret ?_ | refine T.skip ?_ | refine T.exit ?_ | refine T.block ?_ | (apply T.cond_true; rfl) | (apply T.cond_false; rfl) | (apply T.test; rfl; (exact visX); intro _; rotate_left; intro _; rotate_right) | (apply TL.skip; rfl; rfl; rfl) | (apply TL.skip_none; rfl; rfl) | (apply GT.skip; rfl; rfl; rfl; decide +kernel) | (apply TL.x; rfl; rfl; (apply X.box (d := 3); rfl; rfl; rfl); intro b3 _) | (apply TL.x; rfl; rfl; (apply X.box (d := 4); rfl; rfl; rfl); intro b4 _) | (apply TL.x; rfl; rfl; (apply X.alloc (d := 6); rfl; rfl; rfl); intro b6 _) | (apply TL.x; rfl; rfl; (apply X.storeTo 1 (enc (⟨e.signed, e.zone, now + e.signed.set.life⟩ : Entry)); (iterate 10 rfl)); intro _ _) | (apply GS.eff; rfl; decide +kernel; rfl; (apply X.storeTo 1 (enc (⟨e.signed, e.zone, now + e.signed.set.life⟩ : Entry)); (iterate 10 rfl)); intro _ _) | (apply TL.val; rfl; rfl; (first | exact vpure | exact vread)) | (apply GT.pure; rfl; rfl; rfl; rfl; exact vpure; decide +kernel) | (apply GT.read; rfl; rfl; rfl; rfl; (first | exact vpure | exact vread); decide +kernel) | (apply GT.done; decide +kernel; apply N.ofQ) | (apply GT.adv; rfl) | (apply TL.x; rfl; rfl; (first | exact xgrow | exact xput); intro _ _) | (apply GS.grow; rfl; rfl; exact xgrow; intro _ _) | (apply GS.eff; rfl; decide +kernel; rfl; exact xput; intro _ _) | (apply TL.guard; rfl; rfl; rfl; (exact visX); intro _; rotate_left; intro _; rotate_right) | (apply GT.guard; rfl; rfl; rfl; rfl; (exact visX); intro _; rotate_left; intro _; rotate_right) | (apply GT.fork1; decide +kernel)))
  refine T.cut (G := Unit) (fun _ => [(2, intV now), (3, .pointer (some ⟨b3, 0, none⟩)), (4, .pointer (some ⟨b4, 0, none⟩)), (6, .pointer (some ⟨b6, 0, none⟩)), (7, intV 0)]) (fun _ => H) (fun _ => [.blk b6 46 [.slice none 0 0], .blk b4 67 (enc (⟨e.signed, e.zone, now + maxI e.signed.set.life 1⟩ : Entry)), .blk b3 46 (enc c)]) (fun _ => True) ?_ ?_
  · repeat (any_goals (first | refine T.seq ?_ | refine T.region ?_ | (apply T.regionD wide; rfl) | refine TL.nil ?_ | refine N.next ?_ | refine N.inBlock ?_ | refine N.exit_same ?_ | refine N.exit_then ?_ | refine N.ret_then ?_ | refine N.ret_block ?_ | (apply N.exit_other; rfl) | refine T.ret ?_ | refine T.skip ?_ | refine T.exit ?_ | refine T.block ?_ | (apply T.cond_true; rfl) | (apply T.cond_false; rfl) | (apply T.test; rfl; (exact visX); intro _; rotate_left; intro _; rotate_right) | (apply TL.skip; rfl; rfl; rfl) | (apply TL.skip_none; rfl; rfl) | (apply GT.skip; rfl; rfl; rfl; decide +kernel) | (apply TL.x; rfl; rfl; (apply X.storeTo 1 (enc (⟨e.signed, e.zone, now + 1⟩ : Entry)); (iterate 10 rfl)); intro _ _) | (apply GS.eff; rfl; decide +kernel; rfl; (apply X.storeTo 1 (enc (⟨e.signed, e.zone, now + 1⟩ : Entry)); (iterate 10 rfl)); intro _ _) | (apply TL.val; rfl; rfl; (first | exact vpure | exact vread)) | (apply GT.pure; rfl; rfl; rfl; rfl; exact vpure; decide +kernel) | (apply GT.read; rfl; rfl; rfl; rfl; (first | exact vpure | exact vread); decide +kernel) | (apply GT.done; decide +kernel; apply N.ofQ) | (apply GT.adv; rfl) | (apply TL.x; rfl; rfl; (first | exact xgrow | exact xput); intro _ _) | (apply GS.grow; rfl; rfl; exact xgrow; intro _ _) | (apply GS.eff; rfl; decide +kernel; rfl; exact xput; intro _ _) | (apply TL.guard; rfl; rfl; rfl; (exact visX); intro _; rotate_left; intro _; rotate_right) | (apply GT.guard; rfl; rfl; rfl; rfl; (exact visX); intro _; rotate_left; intro _; rotate_right) | (apply GT.fork1; decide +kernel)))
    · rw [hmx, if_pos (by assumption)]
      exact N.cut () trivial (by exact vsub0) rfl (by exact vsubX)
    · rw [hmx, if_neg (by assumption)]
      exact N.cut () trivial (by exact vsub0) rfl (by exact vsubX)
  intro _ _
  generalize hE0 : (⟨e.signed, e.zone, now + maxI e.signed.set.life 1⟩ : Entry) = E0
  have q1 : E0.signed = e.signed := by rw [← hE0]
  have q2 : E0.zone = e.zone := by rw [← hE0]
  have q3 : E0.til = now + maxI E0.signed.set.life 1 := by rw [← hE0]
  have q4 : putE e now = putE E0 now := by unfold putE; rw [q1, q2]
  have gz : LenOk E0.zone := by rw [q2]; exact he.2.1
  rw [q4]
  rw [← q1] at gs1 hmb hsg
  obtain ⟨U, hU⟩ : ∃ U, untilC E0.signed.c now = U := ⟨_, rfl⟩
  have hUe : putE E0 now = (⟨E0.signed, E0.zone, U⟩ : Entry).c := by unfold putE; rw [hU]; rfl
  have hUb : I64 U := by
    rw [← hU]
    have hsl := gs1.2.len
    by_cases h0 : E0.signed.sigs.len = 0
    · rw [until_nil hsl h0]; constructor <;> omega
    · rw [until_cons hsl (by omega)]
      have := hsg _ (List.getElem_mem (l := E0.signed.sigs.els) (n := 0) (by omega))
      unfold minI
      split <;> constructor <;> omega
  have gE : Enc.good H (⟨E0.signed, E0.zone, U⟩ : Entry) := ⟨gs1, gz, hUb⟩
  refine T.cut (G := Unit) (fun _ => [(2, intV now), (3, .pointer (some ⟨b3, 0, none⟩)), (4, .pointer (some ⟨b4, 0, none⟩)), (6, .pointer (some ⟨b6, 0, none⟩)), (7, intV 0)]) (fun _ => H) (fun _ => [.blk b6 46 [.slice none 0 0], .blk b4 67 (enc (⟨E0.signed, E0.zone, U⟩ : Entry)), .blk b3 46 (enc c)]) (fun _ => True) ?_ ?_
  · have hsl := gs1.2.len
    by_cases h0 : E0.signed.sigs.len = 0
    · have hu := until_nil (now := now) hsl h0
      rw [hU, ← q3] at hu
      have hEE : (⟨E0.signed, E0.zone, U⟩ : Entry) = E0 := by rw [hu]
      rw [hEE]
      repeat (any_goals (first | refine T.seq ?_ | refine T.region ?_ | (apply T.regionD wide; rfl) | refine TL.nil ?_ | refine N.next ?_ | refine N.inBlock ?_ | refine N.exit_same ?_ | refine N.exit_then ?_ | refine N.ret_then ?_ | refine N.ret_block ?_ | (apply N.exit_other; rfl) | refine T.ret ?_ | refine T.skip ?_ | refine T.exit ?_ | refine T.block ?_ | (apply T.cond_true; rfl) | (apply T.cond_false; rfl) | (apply T.test; rfl; (exact visX); intro _; rotate_left; intro _; rotate_right) | (apply TL.skip; rfl; rfl; rfl) | (apply TL.skip_none; rfl; rfl) | (apply GT.skip; rfl; rfl; rfl; decide +kernel) | (apply TL.val; rfl; rfl; (first | exact vpure | exact vread)) | (apply GT.pure; rfl; rfl; rfl; rfl; exact vpure; decide +kernel) | (apply GT.read; rfl; rfl; rfl; rfl; (first | exact vpure | exact vread); decide +kernel) | (apply GT.done; decide +kernel; apply N.ofQ) | (apply GT.adv; rfl) | (apply TL.x; rfl; rfl; (first | exact xgrow | exact xput); intro _ _) | (apply GS.grow; rfl; rfl; exact xgrow; intro _ _) | (apply GS.eff; rfl; decide +kernel; rfl; exact xput; intro _ _) | (apply TL.guard; rfl; rfl; rfl; (exact visX); intro _; rotate_left; intro _; rotate_right) | (apply GT.guard; rfl; rfl; rfl; rfl; (exact visX); intro _; rotate_left; intro _; rotate_right) | (apply GT.fork1; decide +kernel)))
      all_goals (try (exfalso; omega))
      exact N.cut () trivial (by exact vsub0) rfl (by exact vsubX)
    · have hpos : 0 < E0.signed.sigs.len := by omega
      have hu := until_cons (now := now) hsl hpos
      rw [hU, ← q3] at hu
      have hpe : 0 < E0.signed.sigs.els.length := by omega
      have hgb := hsg _ (List.getElem_mem (l := E0.signed.sigs.els) hpe)
      repeat (any_goals (first | refine T.seq ?_ | refine T.region ?_ | (apply T.regionD wide; rfl) | refine TL.nil ?_ | refine N.next ?_ | refine N.inBlock ?_ | refine N.exit_same ?_ | refine N.exit_then ?_ | refine N.ret_then ?_ | refine N.ret_block ?_ | (apply N.exit_other; rfl) | refine T.ret ?_ | refine T.skip ?_ | refine T.exit ?_ | refine T.block ?_ | (apply T.cond_true; rfl) | (apply T.cond_false; rfl) | (apply T.test; rfl; (exact visX); intro _; rotate_left; intro _; rotate_right) | (apply TL.skip; rfl; rfl; rfl) | (apply TL.skip_none; rfl; rfl) | (apply GT.skip; rfl; rfl; rfl; decide +kernel) | (apply TL.val; rfl; rfl; (apply V.elem (j := 0); (iterate 6 rfl); exact hpos; exact gs1.2.at_ hpos)) | (apply GT.pure; rfl; rfl; rfl; rfl; (apply V.elem (j := 0); (iterate 6 rfl); exact hpos; exact gs1.2.at_ hpos); decide +kernel) | (apply TL.val; rfl; rfl; (apply V.load_H; rfl; rfl; rfl; exact gs1.2.cell (j := 4) hpos rfl)) | (apply GT.read; rfl; rfl; rfl; rfl; (apply V.load_H; rfl; rfl; rfl; exact gs1.2.cell (j := 4) hpos rfl); decide +kernel) | (apply TL.val; rfl; rfl; (apply V.min (M := U) hu.symm; rfl; rfl)) | (apply GT.pure; rfl; rfl; rfl; rfl; (apply V.min (M := U) hu.symm; rfl; rfl); decide +kernel) | (apply TL.x; rfl; rfl; (apply X.storeTo 1 (enc (⟨E0.signed, E0.zone, U⟩ : Entry)); (iterate 10 rfl)); intro _ _) | (apply GS.eff; rfl; decide +kernel; rfl; (apply X.storeTo 1 (enc (⟨E0.signed, E0.zone, U⟩ : Entry)); (iterate 10 rfl)); intro _ _) | (apply TL.val; rfl; rfl; (first | exact vpure | exact vread)) | (apply GT.pure; rfl; rfl; rfl; rfl; exact vpure; decide +kernel) | (apply GT.read; rfl; rfl; rfl; rfl; (first | exact vpure | exact vread); decide +kernel) | (apply GT.done; decide +kernel; apply N.ofQ) | (apply GT.adv; rfl) | (apply TL.x; rfl; rfl; (first | exact xgrow | exact xput); intro _ _) | (apply GS.grow; rfl; rfl; exact xgrow; intro _ _) | (apply GS.eff; rfl; decide +kernel; rfl; exact xput; intro _ _) | (apply TL.guard; rfl; rfl; rfl; (exact visX); intro _; rotate_left; intro _; rotate_right) | (apply GT.guard; rfl; rfl; rfl; rfl; (exact visX); intro _; rotate_left; intro _; rotate_right) | (apply GT.fork1; decide +kernel)))
      all_goals (try (exfalso; omega))
      exact N.cut () trivial (by exact vsub0) rfl (by exact vsubX)
  intro _ _
  rw [hUe]
  generalize hE : (⟨E0.signed, E0.zone, U⟩ : Entry) = E at gE
  have hEt : E.til = U := by rw [← hE]
  repeat (any_goals (first | refine T.seq ?_ | refine T.region ?_ | (apply T.regionD wide; rfl) | refine TL.nil ?_ | refine N.next ?_ | refine N.inBlock ?_ | refine N.exit_same ?_ | refine N.exit_then ?_ | refine N.ret_then ?_ | refine N.ret_block ?_ | (apply N.exit_other; rfl) | refine T.ret ?_ | refine T.skip ?_ | refine T.exit ?_ | refine T.block ?_ | (apply T.cond_true; rfl) | (apply T.cond_false; rfl) | (apply T.test; rfl; (exact visX); intro _; rotate_left; intro _; rotate_right) | (apply TL.skip; rfl; rfl; rfl) | (apply TL.skip_none; rfl; rfl) | (apply GT.skip; rfl; rfl; rfl; decide +kernel) | (apply TL.val; rfl; rfl; (first | exact vpure | exact vread)) | (apply GT.pure; rfl; rfl; rfl; rfl; exact vpure; decide +kernel) | (apply GT.read; rfl; rfl; rfl; rfl; (first | exact vpure | exact vread); decide +kernel) | (apply GT.done; decide +kernel; apply N.ofQ) | (apply GT.adv; rfl) | (apply TL.x; rfl; rfl; (first | exact xgrow | exact xput); intro _ _) | (apply GS.grow; rfl; rfl; exact xgrow; intro _ _) | (apply GS.eff; rfl; decide +kernel; rfl; exact xput; intro _ _) | (apply TL.guard; rfl; rfl; rfl; (exact visX); intro _; rotate_left; intro _; rotate_right) | (apply GT.guard; rfl; rfl; rfl; rfl; (exact visX); intro _; rotate_left; intro _; rotate_right) | (apply GT.fork1; decide +kernel)))
  refine T.nilRow 67 7 ?_
  refine T.loop (G := List Entry × Value × Nat) (fun g => [(2, intV now), (3, .pointer (some ⟨b3, 0, none⟩)), (4, .pointer (some ⟨b4, 0, none⟩)), (6, .pointer (some ⟨b6, 0, none⟩)), (7, intV 0), (8, g.2.1), (9, .bool (accR now E.c (c.c.take g.2.2)).2), (10, intV g.2.2)]) (fun _ => H) (fun g => [.row g.2.1 67 7 g.1.length (encs g.1), .blk b6 46 [.slice none 0 0], .blk b4 67 (enc E), .blk b3 46 (enc c)]) (fun g => g.2.2 ≤ c.list.len ∧ g.1.length ≤ g.2.2 ∧ (∀ y ∈ g.1, Enc.good H y) ∧ g.1.map Entry.c = (accR now E.c (c.c.take g.2.2)).1) (fun g => c.list.len - g.2.2) ([], .slice none 0 0, 0) ⟨Nat.zero_le _, Nat.le_refl _, by simp, by simp [accR]⟩ (by exact vsub0) rfl (by exact vsubX) ?_
  rintro ⟨ys, yv, k⟩ ⟨hk, hyl, hyg, hys⟩
  simp only at hk hyl hyg hys ⊢
  by_cases hlt : k < c.list.len
  · have hk2 : k < c.list.els.length := by omega
    have hx := gl.els _ (List.getElem_mem hk2)
    have hck : c.c[k]? = some (c.list.els[k]'hk2).c := by
      show (c.list.els.map Entry.c)[k]? = _
      rw [List.getElem?_map, List.getElem?_eq_getElem hk2]; rfl
    have hup := accR_up (now := now) (e := E.c) hck
    generalize hacc : accR now E.c (c.c.take k) = acc at hup hys ⊢
    have hEO : enc (c.list.els[k]'hk2) = enc (c.list.els[k]'hk2) := rfl
    obtain ⟨al, hal⟩ : ∃ v, alikeC (c.list.els[k]'hk2).c E.c = v := ⟨_, rfl⟩
    repeat (any_goals (first | refine T.seq ?_ | refine T.region ?_ | (apply T.regionD wide; rfl) | refine TL.nil ?_ | refine N.next ?_ | refine N.inBlock ?_ | refine N.exit_same ?_ | refine N.exit_then ?_ | refine N.ret_then ?_ | refine N.ret_block ?_ | (apply N.exit_other; rfl) | refine T.ret ?_ | refine T.skip ?_ | refine T.exit ?_ | refine T.block ?_ | (apply T.cond_true; rfl) | (apply T.cond_false; rfl) | (apply T.test; rfl; (exact visX); intro _; rotate_left; intro _; rotate_right) | (apply TL.skip; rfl; rfl; rfl) | (apply TL.skip_none; rfl; rfl) | (apply GT.skip; rfl; rfl; rfl; decide +kernel) | (apply TL.x; rfl; rfl; (apply X.storeTo 0 (enc (c.list.els[k]'hk2)); (iterate 10 rfl)); intro _ _) | (apply TL.callE (f := 136) [.agg (enc (c.list.els[k]'hk2)).toArray, .agg (enc E).toArray] Tryz.call136; rfl; rfl; rfl; rfl; (exact fun _ hs => hal ▸ c_Alike (c.list.els[k]'hk2) E _ _ hs.sat)) | (apply TL.x; rfl; rfl; (apply X.append1 2; (iterate 9 rfl); exact List.Mem.head _; rfl; rfl; rfl; (refine Nat.le_trans (Nat.mul_le_mul_right _ (show _ ≤ 1000 by omega)) ?_; decide); omega); intro pa _) | (apply TL.val; rfl; rfl; (first | exact vpure | exact vread)) | (apply GT.pure; rfl; rfl; rfl; rfl; exact vpure; decide +kernel) | (apply GT.read; rfl; rfl; rfl; rfl; (first | exact vpure | exact vread); decide +kernel) | (apply GT.done; decide +kernel; apply N.ofQ) | (apply GT.adv; rfl) | (apply TL.x; rfl; rfl; (first | exact xgrow | exact xput); intro _ _) | (apply GS.grow; rfl; rfl; exact xgrow; intro _ _) | (apply GS.eff; rfl; decide +kernel; rfl; exact xput; intro _ _) | (apply TL.guard; rfl; rfl; rfl; (exact visX); intro _; rotate_left; intro _; rotate_right) | (apply GT.guard; rfl; rfl; rfl; rfl; (exact visX); intro _; rotate_left; intro _; rotate_right) | (apply GT.fork1; decide +kernel)))
    all_goals (try (exfalso; omega))
    all_goals first
      | (have h1 : (c.list.els[k]'hk2).til ≤ now := by first | assumption | omega
         have hst : stepR now E.c acc (c.list.els[k]'hk2).c = acc := if_pos h1
         rw [hst] at hup
         exact N.round (ys, yv, k + 1) ⟨by show k + 1 ≤ _; omega, by show ys.length ≤ k + 1; omega, hyg, by show ys.map Entry.c = _; rw [hup]; exact hys⟩ (by show c.list.len - (k + 1) < c.list.len - k; omega) (by simp only [hup]; (repeat (first | exact True.intro | refine ⟨rfl, ?_⟩ | refine Sub.int rfl (by omega) ?_))) rfl (by exact vsubX))
      | (have h1 : ¬ (c.list.els[k]'hk2).c.til ≤ now := by show ¬ (c.list.els[k]'hk2).til ≤ now; first | assumption | omega
         have h2 : al = false := by assumption
         have hst : stepR now E.c acc (c.list.els[k]'hk2).c = (acc.1 ++ [(c.list.els[k]'hk2).c], acc.2) := by unfold stepR; rw [if_neg h1, if_pos (by rw [hal, h2])]
         rw [hst] at hup
         refine N.round (ys ++ [c.list.els[k]'hk2], .slice (some ⟨pa.1, 0, none⟩) (ys.length + 1) pa.2, k + 1) ⟨by show k + 1 ≤ _; omega, by simp; omega, ?_, ?_⟩ (by show c.list.len - (k + 1) < c.list.len - k; omega) (by simp only [hup]; (repeat (first | exact True.intro | refine ⟨rfl, ?_⟩ | refine Sub.int rfl (by omega) ?_))) rfl ?_
         · intro z hz
           rcases List.mem_append.1 hz with h | h
           · exact hyg z h
           · rw [List.mem_singleton.1 h]; exact hx
         · rw [hup, List.map_append, hys]; rfl
         · simp only [List.length_append, List.length_cons, List.length_nil, Nat.zero_add, encs_snoc]
           (repeat (first | exact List.Sublist.refl _ | exact List.nil_sublist _ | apply List.Sublist.cons_cons | apply List.Sublist.cons)))
      | (have h1 : ¬ (c.list.els[k]'hk2).c.til ≤ now := by show ¬ (c.list.els[k]'hk2).til ≤ now; first | assumption | omega
         have h2 : al = true := by assumption
         have h3 : now < E.c.til := by show now < E.til; first | assumption | omega
         have hst : stepR now E.c acc (c.list.els[k]'hk2).c = (acc.1 ++ [E.c], true) := by unfold stepR; rw [if_neg h1, if_neg (by rw [hal, h2]; decide), if_pos h3]
         rw [hst] at hup
         refine N.round (ys ++ [E], .slice (some ⟨pa.1, 0, none⟩) (ys.length + 1) pa.2, k + 1) ⟨by show k + 1 ≤ _; omega, by simp; omega, ?_, ?_⟩ (by show c.list.len - (k + 1) < c.list.len - k; omega) (by simp only [hup]; (repeat (first | exact True.intro | refine ⟨rfl, ?_⟩ | refine Sub.int rfl (by omega) ?_))) rfl ?_
         · intro z hz
           rcases List.mem_append.1 hz with h | h
           · exact hyg z h
           · rw [List.mem_singleton.1 h]; exact gE
         · rw [hup, List.map_append, hys]; rfl
         · simp only [List.length_append, List.length_cons, List.length_nil, Nat.zero_add, encs_snoc]
           (repeat (first | exact List.Sublist.refl _ | exact List.nil_sublist _ | apply List.Sublist.cons_cons | apply List.Sublist.cons)))
      | (have h1 : ¬ (c.list.els[k]'hk2).c.til ≤ now := by show ¬ (c.list.els[k]'hk2).til ≤ now; first | assumption | omega
         have h2 : al = true := by assumption
         have h3 : ¬ now < E.c.til := by show ¬ now < E.til; first | assumption | omega
         have hst : stepR now E.c acc (c.list.els[k]'hk2).c = acc := by unfold stepR; rw [if_neg h1, if_neg (by rw [hal, h2]; decide), if_neg h3]
         rw [hst] at hup
         exact N.round (ys, yv, k + 1) ⟨by show k + 1 ≤ _; omega, by show ys.length ≤ k + 1; omega, hyg, by show ys.map Entry.c = _; rw [hup]; exact hys⟩ (by show c.list.len - (k + 1) < c.list.len - k; omega) (by simp only [hup]; (repeat (first | exact True.intro | refine ⟨rfl, ?_⟩ | refine Sub.int rfl (by omega) ?_))) rfl (by exact vsubX))
  · have hke : k = c.list.len := by omega
    subst hke
    rw [List.take_of_length_le (by show (c.list.els.map Entry.c).length ≤ _; rw [List.length_map]; omega)] at hys ⊢
    have hylen : (accR now E.c c.c).1.length = ys.length := by rw [← hys, List.length_map]
    by_cases hd : (accR now E.c c.c).2 = false ∧ now < E.til
    · have ho : outR now E.c c.c = (ys ++ [E]).map Entry.c := by
        have hd' : (accR now E.c c.c).2 = false ∧ now < E.c.til := hd
        unfold outR; rw [if_pos hd', List.map_append, hys]; rfl
      have hL : learnR c.c E.c now = if 400 < ys.length + 1 then ([], 41) else ((ys ++ [E]).map Entry.c, 0) := by
        unfold learnR; rw [ho, List.length_map, List.length_append]; rfl
      have hgo : ∀ z ∈ ys ++ [E], Enc.good H z := fun z hz => by
        rcases List.mem_append.1 hz with h | h
        · exact hyg z h
        · rw [List.mem_singleton.1 h]; exact gE
      obtain ⟨hd1, hd2⟩ := hd
      rw [hd1]
      repeat (any_goals (first | refine T.seq ?_ | refine T.region ?_ | (apply T.regionD wide; rfl) | refine TL.nil ?_ | refine N.next ?_ | refine N.inBlock ?_ | refine N.exit_same ?_ | refine N.exit_then ?_ | refine N.ret_then ?_ | refine N.ret_block ?_ | (apply N.exit_other; rfl) | refine T.ret ?_ | refine T.skip ?_ | refine T.exit ?_ | refine T.block ?_ | (apply T.cond_true; rfl) | (apply T.cond_false; rfl) | (apply T.test; rfl; (exact visX); intro _; rotate_left; intro _; rotate_right) | (apply TL.skip; rfl; rfl; rfl) | (apply TL.skip_none; rfl; rfl) | (apply GT.skip; rfl; rfl; rfl; decide +kernel) | (apply TL.x; rfl; rfl; (apply X.append1 1; (iterate 9 rfl); exact List.Mem.head _; rfl; rfl; rfl; (refine Nat.le_trans (Nat.mul_le_mul_right _ (show _ ≤ 1000 by omega)) ?_; decide); omega); intro pa _) | (apply TL.val; rfl; rfl; (apply V.build; (iterate 6 rfl))) | (apply GT.pure; rfl; rfl; rfl; rfl; (apply V.build; (iterate 6 rfl)); decide +kernel) | (apply TL.val; rfl; rfl; (first | exact vpure | exact vread)) | (apply GT.pure; rfl; rfl; rfl; rfl; exact vpure; decide +kernel) | (apply GT.read; rfl; rfl; rfl; rfl; (first | exact vpure | exact vread); decide +kernel) | (apply GT.done; decide +kernel; apply N.ofQ) | (apply GT.adv; rfl) | (apply TL.x; rfl; rfl; (first | exact xgrow | exact xput); intro _ _) | (apply GS.grow; rfl; rfl; exact xgrow; intro _ _) | (apply GS.eff; rfl; decide +kernel; rfl; exact xput; intro _ _) | (apply TL.guard; rfl; rfl; rfl; (exact visX); intro _; rotate_left; intro _; rotate_right) | (apply GT.guard; rfl; rfl; rfl; rfl; (exact visX); intro _; rotate_left; intro _; rotate_right) | (apply GT.fork1; decide +kernel)))
      all_goals (try (exfalso; omega))
      · rw [if_pos (by omega)] at hL
        refine N.ret2 rfl (by (exact rvx)) (by (exact rvx)) fun w1 hst => ?_
        exact zero_end hst hL
      · rw [if_neg (by omega)] at hL
        rw [hL]
        refine N.ret2 rfl (by (exact rvx)) (by (exact rvx)) fun w1 hst => ?_
        refine row_end (els := ys ++ [E]) hst ?_ (List.length_append ..) hgo rfl
        simp only [encs_snoc]
        (repeat (first | exact List.Sublist.refl _ | exact List.nil_sublist _ | apply List.Sublist.cons_cons | apply List.Sublist.cons))
    · have ho : outR now E.c c.c = ys.map Entry.c := by
        have hd' : ¬ ((accR now E.c c.c).2 = false ∧ now < E.c.til) := hd
        unfold outR; rw [if_neg hd', hys]
      have hL : learnR c.c E.c now = (ys.map Entry.c, 0) := by
        unfold learnR; rw [ho, List.length_map, if_neg (by omega)]
      rw [hL]
      generalize (accR now E.c c.c).2 = dn at hd
      apply T.frzRow 0 (els := ys); rfl; rfl; rfl; exact hyg
      intro H3 sl e1 e2 e3 hle3
      subst e1
      have hsl : sl.len = ys.length := by rw [← e3.len, e2]
      repeat (any_goals (first | refine T.seq ?_ | refine T.region ?_ | (apply T.regionD wide; rfl) | refine TL.nil ?_ | refine N.next ?_ | refine N.inBlock ?_ | refine N.exit_same ?_ | refine N.exit_then ?_ | refine N.ret_then ?_ | refine N.ret_block ?_ | (apply N.exit_other; rfl) | refine T.ret ?_ | refine T.skip ?_ | refine T.exit ?_ | refine T.block ?_ | (apply T.cond_true; rfl) | (apply T.cond_false; rfl) | (apply T.test; rfl; (exact visX); intro _; rotate_left; intro _; rotate_right) | (apply TL.skip; rfl; rfl; rfl) | (apply TL.skip_none; rfl; rfl) | (apply GT.skip; rfl; rfl; rfl; decide +kernel) | (apply TL.val; rfl; rfl; (apply V.build; (iterate 6 rfl))) | (apply GT.pure; rfl; rfl; rfl; rfl; (apply V.build; (iterate 6 rfl)); decide +kernel) | (apply TL.x; rfl; rfl; (apply X.storeTo 0 [sl.v]; (iterate 10 rfl)); intro _ _) | (apply GS.eff; rfl; decide +kernel; rfl; (apply X.storeTo 0 [sl.v]; (iterate 10 rfl)); intro _ _) | (apply TL.val; rfl; rfl; (first | exact vpure | exact vread)) | (apply GT.pure; rfl; rfl; rfl; rfl; exact vpure; decide +kernel) | (apply GT.read; rfl; rfl; rfl; rfl; (first | exact vpure | exact vread); decide +kernel) | (apply GT.done; decide +kernel; apply N.ofQ) | (apply GT.adv; rfl) | (apply TL.x; rfl; rfl; (first | exact xgrow | exact xput); intro _ _) | (apply GS.grow; rfl; rfl; exact xgrow; intro _ _) | (apply GS.eff; rfl; decide +kernel; rfl; exact xput; intro _ _) | (apply TL.guard; rfl; rfl; rfl; (exact visX); intro _; rotate_left; intro _; rotate_right) | (apply GT.guard; rfl; rfl; rfl; rfl; (exact visX); intro _; rotate_left; intro _; rotate_right) | (apply GT.fork1; decide +kernel)))
      all_goals (try (exfalso; omega))
      all_goals first
        | (exfalso; exact hd ⟨by assumption, by first | assumption | omega⟩)
        | (refine N.ret2 rfl (by (exact rvx)) (by (exact rvx)) fun w hst => ⟨(H3, ⟨sl⟩), ⟨?_, e3⟩, rfl, hst.fresh⟩
           show sl.els.map Entry.c = _
           rw [e2])
theorem c_SameF (a b : Cache) {v : Bool} (h : decide (a.c = b.c) = v) {H : Hp} {w : World} (hs : Sat H w) (ha : Enc.good H a) (hb : Enc.good H b) : Calls Tryz.prog 35 #[.agg (enc a).toArray, .agg (enc b).toArray] w (Ret w (.bool v)) := by
  subst h
  exact c_Same22 a b H w hs ha hb
end Go.Proofs.YtogcofeencgipaaGreatDoor
