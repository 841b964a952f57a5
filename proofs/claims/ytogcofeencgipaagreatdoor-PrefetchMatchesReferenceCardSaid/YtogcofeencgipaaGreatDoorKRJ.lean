/- Walks: Learn of the reference (R32). -/
import Derived.Test.YtogcofeencgipaaGreatDoorKNT
import Derived.Test.YtogcofeencgipaaGreatDoorKRH
namespace Go.Proofs.YtogcofeencgipaaGreatDoor
set_option linter.unusedVariables false
set_option linter.unusedSimpArgs false
open Go Go.RowKit
open Enc (enc)
set_option maxRecDepth 20000
theorem start_life {s : SignedC} (h : setOK s.set = true) (ht : isStart s = true) : 0 ≤ lifeOf s ∧ lifeOf s ≤ 100000 := by
  have ht : s.set.typ = 4 := of_decide_eq_true ht
  have h1 := (setOK_life h).2
  unfold setOK at h
  simp only [Bool.and_eq_true, List.all_eq_true] at h
  have h2 := h.1.2
  cases hd : s.set.data with
  | nil => rw [hd] at h1; simp at h1
  | cons d t =>
    have h3 := h2 d (by rw [hd]; exact List.mem_cons_self ..)
    rw [ht] at h3
    unfold datumOK datumBy at h3
    rw [show ruleOf (4 : Int).toNat = ⟨0, 0, 65535, 0, 100000, false, true, false⟩ from rfl] at h3
    simp only [Bool.and_eq_true, decide_eq_true_eq] at h3
    have h4 : lifeOf s = d.m := by unfold lifeOf; rw [hd]; rfl
    rw [h4]; exact h3.2.1.1.2
theorem putM_cases {s : SignedC} {zone : Bytes} {now : Int} {c : List EntryC} (hc : cacheOK c = true) (h1 : setOK s.set = true) (h2 : inZone s.set.name zone = true) (h3 : 0 ≤ now ∧ now ≤ 20000000) :
    (∃ r, putC c s zone now = (r, 0) ∧ putM s zone now c = (r, 0) ∧ cacheOK r = true) ∨ (∃ r, putC c s zone now = (r, 30) ∧ putM s zone now c = (c, 0)) ∨ (∃ r, putC c s zone now = (r, 41) ∧ putM s zone now c = (r, 41)) := by
  have e := put_yes (l := c) (s := s) hc h1 h2 h3
  have hm : ∀ r k, putC c s zone now = (r, k) → k ≠ 30 → putM s zone now c = (r, k) := fun r k h hk => by
    unfold putM; rw [h, if_neg hk]
  cases hf : sigsForm s.sigs zone with
  | false =>
    rw [hf] at e
    simp only [Bool.false_eq_true, if_false] at e
    exact .inr (.inl ⟨_, e, by unfold putM; rw [e, if_pos rfl]⟩)
  | true =>
    rw [hf] at e
    simp only [if_true] at e
    obtain ⟨⟨r, k⟩, hr⟩ : ∃ x, putC c s zone now = x := ⟨_, rfl⟩
    have hk : k = 0 ∨ k = 41 := by
      rw [hr] at e
      have e2 : k = (learnC c ⟨s, zone, untilC s now⟩ now).2 := congrArg Prod.snd e
      rw [e2]
      unfold learnC
      split
      · exact .inl rfl
      · split
        · exact .inl rfl
        · split
          · exact .inr rfl
          · exact .inl rfl
    rcases hk with rfl | rfl
    · refine .inl ⟨r, hr, hm r 0 hr (by decide), ?_⟩
      have := put_keeps (c := c) (s := s) (zone := zone) (now := now) (by rw [hr])
      rw [hr] at this; exact this
    · exact .inr (.inr ⟨r, hr, hm r 41 hr (by decide)⟩)
theorem teach_put {s : SignedC} {zone : Bytes} {now : Int} {t : List (List EntryC → List EntryC × Int)} {c r : List EntryC} (h : putM s zone now c = (r, 0)) : teachAll (putM s zone now :: t) c = teachAll t r := by
  show (if (putM s zone now c).2 = 0 then teachAll t (putM s zone now c).1 else _) = _
  rw [h, if_pos rfl]
theorem teach_full {s : SignedC} {zone : Bytes} {now : Int} {t : List (List EntryC → List EntryC × Int)} {c r : List EntryC} (h : putM s zone now c = (r, 41)) : teachAll (putM s zone now :: t) c = ([], 41) := by
  show (if (putM s zone now c).2 = 0 then _ else ([], (putM s zone now c).2)) = _
  rw [h, if_neg (show ¬ (41 : Int) = 0 by decide)]
theorem teach_deny {q : Question} {zone : Bytes} {life now : Int} {c : List EntryC} : teachAll [fun c => denyC c q zone life now] c = denyC c q zone life now := by
  show (if (denyC c q zone life now).2 = 0 then ((denyC c q zone life now).1, (0 : Int)) else ([], (denyC c q zone life now).2)) = _
  rcases deny_cases c q zone life now with ⟨k, h, hk⟩ | ⟨_, _⟩
  · rw [h, if_neg hk]
  · obtain ⟨⟨r, k⟩, hr⟩ : ∃ x, denyC c q zone life now = x := ⟨_, rfl⟩
    rw [hr]
    by_cases hk : k = 0
    · subst hk; rfl
    · rw [if_neg hk]
      have := teach_err (ms := [fun c => denyC c q zone life now]) (c := c) (by
        show (if (denyC c q zone life now).2 = 0 then _ else ([], (denyC c q zone life now).2)).2 ≠ 0
        rw [hr, if_neg hk]; exact hk)
      rcases deny_cases c q zone life now with ⟨k2, h, hk2⟩ | ⟨_, h⟩
      · rw [hr] at h; cases h; rfl
      · rw [hr] at h
        have e2 : k = (learnC c (denied q zone life now) now).2 := congrArg Prod.snd h
        have e1 : r = (learnC c (denied q zone life now) now).1 := congrArg Prod.fst h
        have : (learnC c (denied q zone life now) now).1 = [] := by
          rw [e2] at hk
          unfold learnC at hk ⊢
          split
          · rename_i h1; rw [if_pos h1] at hk; exact absurd rfl hk
          · rename_i h1
            rw [if_neg h1] at hk
            split
            · rename_i h2; rw [if_pos h2] at hk; exact absurd rfl hk
            · rename_i h2
              rw [if_neg h2] at hk
              split
              · rfl
              · rename_i h3; rw [if_neg h3] at hk; exact absurd rfl hk
        rw [e1, this]
def lifeUp (l : List SignedC) : Int := match l.find? isStart with
  | some s => lifeOf s
  | none => -1
theorem life_up {l : List SignedC} {k : Nat} {x : SignedC} (h : l[k]? = some x) : lifeUp (l.take (k + 1)) = match (l.take k).find? isStart with
  | some s => lifeOf s
  | none => if isStart x then lifeOf x else -1 := by
  unfold lifeUp
  rw [List.take_add_one, h, List.find?_append]
  cases hf : (l.take k).find? isStart with
  | some s => rfl
  | none =>
    simp only [Option.toList_some, Option.none_or, List.find?_cons, List.find?_nil]
    cases isStart x <;> rfl
def tailM (zone : Bytes) (q : Question) (k : Int) (l : List SignedC) (now : Int) : List (List EntryC → List EntryC × Int) := match l.find? isStart with
  | some s => if k = 5 ∨ k = 6 then [fun c => denyC c q zone (lifeOf s) now] else []
  | none => []
theorem filterF_in {zone : Bytes} {q : Question} {a : AnswerC} (hz : zoneV zone = true) : ∀ x ∈ (filterF zone q a).1, inZone x.set.name zone = true := fun x hx => by
  have hzn := zoneV_name hz
  have hst : starN zone = false := by
    have h := zoneV_wild hzn
    rw [hz] at h
    rw [← wildN_star]
    cases hw : wildN zone
    · rfl
    · rw [hw] at h; cases h
  rw [inZone_yes hzn hst]
  unfold filterF at hx
  split at hx
  · cases hx
  · split at hx
    · cases hx
    · have h2 := (List.mem_filter.1 hx).2
      unfold takenF at h2
      rw [Bool.and_eq_true] at h2
      exact h2.1
set_option maxHeartbeats 16000000 in
theorem c_Learn32 (c : Cache) (zone : Bytes) (q : Question) (a : Answer) (now : Int) (H : Hp) (w : World) (hs : Sat H w) (hR : Rules H) (hg : Enc.good H c) (hz : LenOk zone) (hzb : zone.length ≤ 1000000) (hq : Enc.good H q) (ha : Enc.good H a) (hnow : I64 now) : Calls Tryz.prog 32 #[.agg (enc c).toArray, strV zone, .agg (enc q).toArray, .agg (enc a).toArray, intV now] w (Caches w H (learnP zone q a.c now (filterF zone q a.c).1 c.c)) := by
  refine T.enter (vs := [.agg (enc c).toArray, strV zone, .agg (enc q).toArray, .agg (enc a).toArray, intV now]) (H := H) Tryz.func32 rfl rfl rfl hs ?_
  obtain ⟨v1, h1⟩ : ∃ v, cacheOK c.c = v := ⟨_, rfl⟩
  obtain ⟨v2, h2⟩ : ∃ v, isT now = v := ⟨_, rfl⟩
  obtain ⟨v3, h3⟩ : ∃ v, nameOK zone = v := ⟨_, rfl⟩
  obtain ⟨v4, h4⟩ : ∃ v, wildN zone = v := ⟨_, rfl⟩
  obtain ⟨v5, h5⟩ : ∃ v, questionOK q = v := ⟨_, rfl⟩
  obtain ⟨v6, h6⟩ : ∃ v, answerOK a.c = v := ⟨_, rfl⟩
  by_cases hv : v1 = true ∧ v2 = true ∧ v3 = true ∧ v4 = false ∧ v5 = true ∧ v6 = true
  · obtain ⟨rfl, rfl, rfl, rfl, rfl, rfl⟩ := hv
    have hzv : zoneV zone = true := by rw [zoneV_wild h3, h4]; rfl
    have hT : 0 ≤ now ∧ now ≤ 20000000 := of_decide_eq_true h2
    have hfo : (zoneV zone && questionOK q && answerOK a.c) = true := by rw [hzv, h5, h6]; rfl
    have hcl := clean_yes h1 hT
    obtain ⟨fl, hfl⟩ : ∃ fl, (filterF zone q a.c).1 = fl := ⟨_, rfl⟩
    have hset : ∀ x ∈ fl, setOK x.set = true := hfl ▸ filterF_sets h6
    have hin : ∀ x ∈ fl, inZone x.set.name zone = true := hfl ▸ filterF_in hzv
    have hLT : learnP zone q a.c now fl c.c = teachAll (fl.map (fun s => putM s zone now) ++ tailM zone q a.kind fl now) (freshC c.c now) := by
      have e1 : learnP zone q a.c now fl c.c = teachAll (lesM zone q a.kind fl now) c.c := by
        unfold learnP; rw [h1, h2, hzv, h5, h6]; rfl
      rw [e1]
      show (if (cleanC c.c now).2 = 0 then teachAll (fl.map (fun s => putM s zone now) ++ tailM zone q a.kind fl now) (cleanC c.c now).1 else _) = _
      rw [hcl, if_pos rfl]
    rw [hfl, hLT]
    have hfr : cacheOK (freshC c.c now) = true := cache_sub h1 (fresh_sub ..)
    have hFl : ∀ {w : World}, ∀ {H1 : Hp}, H.le H1 → Sat H1 w → Calls Tryz.prog 95 #[strV zone, .agg (enc q).toArray, .agg (enc a).toArray] w (Lists w H1 (fl, 0)) := fun hle hs => by
      have := c_Filter30 zone q a _ _ hs (hR.mono hle) hz (Enc.mono hle hq) (Enc.mono hle ha) hfo
      rw [filterF_T hfo] at this hfl
      rw [← hfl]; exact this
    repeat (any_goals (first | refine T.seq ?_ | refine T.region ?_ | (apply T.regionD wide; rfl) | refine TL.nil ?_ | refine N.next ?_ | refine N.inBlock ?_ | refine N.exit_same ?_ | refine N.exit_then ?_ | refine N.ret_then ?_ | refine N.ret_block ?_ | (apply N.exit_other; rfl) | refine T.ret ?_ | refine T.skip ?_ | refine T.exit ?_ | refine T.block ?_ | (apply T.cond_true; rfl) | (apply T.cond_false; rfl) | (apply T.test; rfl; (exact visX); intro _; rotate_left; intro _; rotate_right) | (apply TL.skip; rfl; rfl; rfl) | (apply TL.skip_none; rfl; rfl) | (apply GT.skip; rfl; rfl; rfl; decide +kernel) | (apply TL.x; rfl; rfl; (apply X.box (d := 5); rfl; rfl; rfl); intro b5 _) | (apply TL.x; rfl; rfl; (apply X.box (d := 7); rfl; rfl; rfl); intro b7 _) | (apply TL.x; rfl; rfl; (apply X.box (d := 8); rfl; rfl; rfl); intro b8 _) | (apply TL.x; rfl; rfl; (apply X.alloc (d := 10); rfl; rfl; rfl); intro b10 _) | (apply TL.x; rfl; rfl; (apply X.alloc (d := 12); rfl; rfl; rfl); intro b12 _) | (apply TL.callE (f := 80) [.agg (enc c).toArray] Tryz.call80; rfl; rfl; rfl; rfl; (exact fun _ hs => h1 ▸ c_Valid22 c _ _ hs.sat hg)) | (apply GT.callE (f := 80) [.agg (enc c).toArray] Tryz.call80; (iterate 6 rfl); (exact fun _ hs => h1 ▸ c_Valid22 c _ _ hs.sat hg); decide +kernel) | (apply TL.callE (f := 81) [intV now] Tryz.call81; rfl; rfl; rfl; rfl; (exact fun _ hs => c_Time22B h2 hs.sat)) | (apply GT.callE (f := 81) [intV now] Tryz.call81; (iterate 6 rfl); (exact fun _ hs => c_Time22B h2 hs.sat); decide +kernel) | (apply TL.callE (f := 92) [strV zone] Tryz.call92; rfl; rfl; rfl; rfl; (exact fun _ hs => h3 ▸ c_nameValid01 _ _ _ hs.sat hz)) | (apply GT.callE (f := 92) [strV zone] Tryz.call92; (iterate 6 rfl); (exact fun _ hs => h3 ▸ c_nameValid01 _ _ _ hs.sat hz); decide +kernel) | (apply TL.callE (f := 93) [strV zone] Tryz.call93; rfl; rfl; rfl; rfl; (exact fun _ hs => h4 ▸ c_Wild01 zone _ _ hs.sat hzb)) | (apply GT.callE (f := 93) [strV zone] Tryz.call93; (iterate 6 rfl); (exact fun _ hs => h4 ▸ c_Wild01 zone _ _ hs.sat hzb); decide +kernel) | (apply TL.callE (f := 39) [.agg (enc q).toArray] Tryz.call39; rfl; rfl; rfl; rfl; (exact fun _ hs => h5 ▸ c_Question06 q _ _ hs.sat hq)) | (apply GT.callE (f := 39) [.agg (enc q).toArray] Tryz.call39; (iterate 6 rfl); (exact fun _ hs => h5 ▸ c_Question06 q _ _ hs.sat hq); decide +kernel) | (apply TL.callE (f := 70) [.agg (enc a).toArray] Tryz.call70; rfl; rfl; rfl; rfl; (exact fun _ hs => h6 ▸ c_Answer26 a _ _ hs.sat ha)) | (apply GT.callE (f := 70) [.agg (enc a).toArray] Tryz.call70; (iterate 6 rfl); (exact fun _ hs => h6 ▸ c_Answer26 a _ _ hs.sat ha); decide +kernel) | (apply TL.x; rfl; rfl; (apply X.callFE (f := 94) [.agg (enc c).toArray, intV now] Tryz.call94; rfl; rfl; rfl; exact (fun _ hs => hcl ▸ c_Clean22 c now _ _ hs.sat hg)); intro p hp; obtain ⟨⟨hp1, hp2⟩, hp3⟩ := hp; simp only at hp1) | (apply TL.x; rfl; rfl; (apply X.storeTo 0 (enc p.2); (iterate 10 rfl)); intro _ _) | (apply GS.eff; rfl; decide +kernel; rfl; (apply X.storeTo 0 (enc p.2); (iterate 10 rfl)); intro _ _) | (apply TL.x; rfl; rfl; (apply X.callFE (f := 95) [strV zone, .agg (enc q).toArray, .agg (enc a).toArray] Tryz.call95; rfl; rfl; rfl; exact (fun _ hs => hFl hp3 hs.sat)); intro f hf; obtain ⟨⟨hf1, hf2⟩, hf3⟩ := hf; simp only at hf1; have hp4 := Enc.mono hf3 hp2) | (apply TL.val; rfl; rfl; (first | exact vpure | exact vread)) | (apply GT.pure; rfl; rfl; rfl; rfl; exact vpure; decide +kernel) | (apply GT.read; rfl; rfl; rfl; rfl; (first | exact vpure | exact vread); decide +kernel) | (apply GT.done; decide +kernel; apply N.ofQ) | (apply GT.adv; rfl) | (apply TL.x; rfl; rfl; (first | exact xgrow | exact xput); intro _ _) | (apply GS.grow; rfl; rfl; exact xgrow; intro _ _) | (apply GS.eff; rfl; decide +kernel; rfl; exact xput; intro _ _) | (apply TL.guard; rfl; rfl; rfl; (exact visX); intro _; rotate_left; intro _; rotate_right) | (apply GT.guard; rfl; rfl; rfl; rfl; (exact visX); intro _; rotate_left; intro _; rotate_right)))
    all_goals (try contradiction)
    have hfn := hf2.len
    have hfm := hf2.lim
    have hle0 := hp3.trans hf3
    refine T.loop (G := Hp × Cache × Nat) (fun g => [(1, strV zone), (4, intV now), (7, .pointer (some ⟨b7, 0, none⟩)), (8, .pointer (some ⟨b8, 0, none⟩)), (10, .pointer (some ⟨b10, 0, none⟩)), (11, intV 0), (12, .pointer (some ⟨b12, 0, none⟩)), (14, f.2.v), (16, intV (lifeUp (fl.take g.2.2))), (17, intV g.2.2)]) (fun g => g.1) (fun g => [.blk b12 46 (enc g.2.1), .blk b10 46 [.slice none 0 0], .blk b8 26 (enc a), .blk b7 23 (enc q)]) (fun g => f.1.le g.1 ∧ g.2.2 ≤ f.2.len ∧ Enc.good g.1 g.2.1 ∧ cacheOK g.2.1.c = true ∧ teachAll ((fl.drop g.2.2).map (fun s => putM s zone now) ++ tailM zone q a.kind fl now) g.2.1.c = teachAll (fl.map (fun s => putM s zone now) ++ tailM zone q a.kind fl now) (freshC c.c now)) (fun g => f.2.len - g.2.2) (f.1, p.2, 0) ⟨Hp.le.refl _, Nat.zero_le _, hp4, by rw [hp1]; exact hfr, by rw [hp1]; rfl⟩ (by exact vsub0) rfl (by exact vsubX) ?_
    rintro ⟨Hk, ck, k⟩ ⟨hlek, hk, hcg, hco, hct⟩
    simp only at hlek hk hcg hco hct ⊢
    by_cases hlt : k < f.2.len
    · have hk2 : k < f.2.els.length := by omega
      have hgk := hf2.mono hlek
      have hx := hgk.els _ (List.getElem_mem hk2)
      have hfk : fl[k]? = some (f.2.els[k]'hk2).c := by
        rw [← hf1, List.getElem?_map, List.getElem?_eq_getElem hk2]; rfl
      have hmem : (f.2.els[k]'hk2).c ∈ fl := List.mem_of_getElem? hfk
      have hso := hset _ hmem
      have hio := hin _ hmem
      have hlu := life_up hfk
      have hdr : fl.drop k = (f.2.els[k]'hk2).c :: fl.drop (k + 1) := by
        obtain ⟨h, e⟩ := List.getElem?_eq_some_iff.1 hfk
        rw [List.drop_eq_getElem_cons h, e]
      rw [hdr, List.map_cons, List.cons_append] at hct
      have hlife : ∀ s ∈ fl, isStart s = true → 0 ≤ lifeOf s ∧ lifeOf s ≤ 100000 := fun s h h2 => start_life (hset s h) h2
      have hst : isStart (f.2.els[k]'hk2).c = decide ((f.2.els[k]'hk2).set.typ = 4) := rfl
      have hdl := hx.1.2.2.2.len
      have hdp : 0 < (f.2.els[k]'hk2).set.data.els.length := (setOK_life hso).2
      have hdp2 : 0 < (f.2.els[k]'hk2).set.data.len := by omega
      have hlf : lifeOf (f.2.els[k]'hk2).c = ((f.2.els[k]'hk2).set.data.els[0]'hdp).m := by
        show (List.headD (f.2.els[k]'hk2).set.data.els ⟨[], 0, 0⟩).m = _
        generalize (f.2.els[k]'hk2).set.data.els = xs at hdp
        cases xs with
        | nil => simp at hdp
        | cons x t => rfl
      -- the life behind this round
      obtain ⟨lk, hlk⟩ : ∃ v, lifeUp (fl.take k) = v := ⟨_, rfl⟩
      have hl2 : lifeUp (fl.take (k + 1)) = if (f.2.els[k]'hk2).set.typ = 4 ∧ lk < 0 then ((f.2.els[k]'hk2).set.data.els[0]'hdp).m else lk := by
        rw [hlu, ← hlk]
        unfold lifeUp
        cases hfi : (fl.take k).find? isStart with
        | some s =>
          have h0 := hlife s (List.mem_of_mem_take (List.mem_of_find?_eq_some hfi)) (List.find?_some hfi)
          simp only
          rw [if_neg (by omega)]
        | none =>
          simp only
          rw [hst, hlf]
          by_cases ht : (f.2.els[k]'hk2).set.typ = 4
          · rw [if_pos (decide_eq_true ht), if_pos ⟨ht, by decide⟩]
          · rw [if_neg (by rw [decide_eq_true_iff]; exact ht), if_neg (fun h => ht h.1)]
      rw [hlk]
      have hcP : ∀ {w : World} {r : List EntryC × Int}, putC ck.c (f.2.els[k]'hk2).c zone now = r → Sat Hk w → Calls Tryz.prog 96 #[.agg (enc ck).toArray, .agg (enc (f.2.els[k]'hk2)).toArray, strV zone, intV now] w (Caches w Hk r) := fun h hs => h ▸ c_Put22 ck (f.2.els[k]'hk2) zone now Hk _ hs hcg hx hz
      rcases putM_cases hco hso hio hT with ⟨r, e1, e2, e3⟩ | ⟨r, e1, e2⟩ | ⟨r, e1, e2⟩
      · rw [teach_put e2] at hct
        repeat (any_goals (first | refine T.seq ?_ | refine T.region ?_ | (apply T.regionD wide; rfl) | refine TL.nil ?_ | refine N.next ?_ | refine N.inBlock ?_ | refine N.exit_same ?_ | refine N.exit_then ?_ | refine N.ret_then ?_ | refine N.ret_block ?_ | (apply N.exit_other; rfl) | refine T.ret ?_ | refine T.skip ?_ | refine T.exit ?_ | refine T.block ?_ | (apply T.cond_true; rfl) | (apply T.cond_false; rfl) | (apply T.test; rfl; (exact visX); intro _; rotate_left; intro _; rotate_right) | (apply TL.skip; rfl; rfl; rfl) | (apply TL.skip_none; rfl; rfl) | (apply GT.skip; rfl; rfl; rfl; decide +kernel) | (apply TL.val; rfl; rfl; (apply V.load_H_row; rfl; rfl; rfl; exact hgk.row hlt; rfl)) | (apply GT.read; rfl; rfl; rfl; rfl; (apply V.load_H_row; rfl; rfl; rfl; exact hgk.row hlt; rfl); decide +kernel) | (apply GS.grow; rfl; rfl; (apply X.callFE (f := 96) [.agg (enc ck).toArray, .agg (enc (f.2.els[k]'hk2)).toArray, strV zone, intV now] Tryz.call96; rfl; rfl; rfl; exact (fun _ hs => hcP e1 hs.sat)); intro u hu; obtain ⟨⟨hu1, hu2⟩, hu3⟩ := hu; simp only at hu1; have hgu := hgk.mono hu3; have hxu := Enc.mono hu3 hx) | (apply TL.x; rfl; rfl; (apply X.storeTo 0 (enc u.2); (iterate 10 rfl)); intro _ _) | (apply GS.eff; rfl; decide +kernel; rfl; (apply X.storeTo 0 (enc u.2); (iterate 10 rfl)); intro _ _) | (apply TL.x; rfl; rfl; (apply X.storeTo 1 (enc u.2); (iterate 10 rfl)); intro _ _) | (apply GS.eff; rfl; decide +kernel; rfl; (apply X.storeTo 1 (enc u.2); (iterate 10 rfl)); intro _ _) | (apply TL.val; rfl; rfl; (apply V.load_H; rfl; rfl; rfl; exact hgu.cell hlt rfl)) | (apply GT.read; rfl; rfl; rfl; rfl; (apply V.load_H; rfl; rfl; rfl; exact hgu.cell hlt rfl); decide +kernel) | (apply TL.val; rfl; rfl; (apply V.elem (j := 0); (iterate 6 rfl); exact hdp2; exact hxu.1.2.2.2.at_ hdp2)) | (apply GT.pure; rfl; rfl; rfl; rfl; (apply V.elem (j := 0); (iterate 6 rfl); exact hdp2; exact hxu.1.2.2.2.at_ hdp2); decide +kernel) | (apply TL.val; rfl; rfl; (apply V.load_H; rfl; rfl; rfl; exact hxu.1.2.2.2.cell (j := 2) hdp2 rfl)) | (apply GT.read; rfl; rfl; rfl; rfl; (apply V.load_H; rfl; rfl; rfl; exact hxu.1.2.2.2.cell (j := 2) hdp2 rfl); decide +kernel) | (apply TL.val; rfl; rfl; (first | exact vpure | exact vread)) | (apply GT.pure; rfl; rfl; rfl; rfl; exact vpure; decide +kernel) | (apply GT.read; rfl; rfl; rfl; rfl; (first | exact vpure | exact vread); decide +kernel) | (apply GT.done; decide +kernel; apply N.ofQ) | (apply GT.adv; rfl) | (apply TL.x; rfl; rfl; (first | exact xgrow | exact xput); intro _ _) | (apply GS.grow; rfl; rfl; exact xgrow; intro _ _) | (apply GS.eff; rfl; decide +kernel; rfl; exact xput; intro _ _) | (apply TL.guard; rfl; rfl; rfl; (exact visX); intro _; rotate_left; intro _; rotate_right) | (apply GT.guard; rfl; rfl; rfl; rfl; (exact visX); intro _; rotate_left; intro _; rotate_right) | (apply GT.fork1; decide +kernel) | (apply GT.fork2 1; decide +kernel) | (apply GT.fork2 2; decide +kernel) | (apply GT.fork2 3; decide +kernel) | (apply GT.fork2 4; decide +kernel) | (apply GT.fork2 5; decide +kernel) | (apply GT.fork2 6; decide +kernel) | (apply GT.fork2 7; decide +kernel) | (apply GT.fork2 8; decide +kernel) | (apply GT.fork2 9; decide +kernel) | (apply GT.fork2 10; decide +kernel) | (apply GT.fork2 11; decide +kernel) | (apply GT.fork2 12; decide +kernel) | (apply GT.fork2 13; decide +kernel) | (apply GT.fork2 14; decide +kernel) | (apply GT.fork2 15; decide +kernel) | (apply GT.fork2 16; decide +kernel) | (apply GT.fork2 17; decide +kernel) | (apply GT.fork2 18; decide +kernel) | (apply GT.fork2 19; decide +kernel) | (apply GT.fork2 20; decide +kernel) | (apply GT.fork2 21; decide +kernel) | (apply GT.fork2 22; decide +kernel) | (apply GT.fork2 23; decide +kernel)))
        all_goals (try contradiction)
        all_goals (try (exfalso; omega))
        all_goals first
          | (have e : lifeUp (fl.take (k + 1)) = ((f.2.els[k]'hk2).set.data.els[0]'hdp).m := by rw [hl2, if_pos ⟨by assumption, by omega⟩]
             exact N.round (u.1, u.2, k + 1) ⟨hlek.trans hu3, by show k + 1 ≤ _; omega, hu2, by show cacheOK u.2.c = true; rw [hu1]; exact e3, by show teachAll _ u.2.c = _; rw [hu1]; exact hct⟩ (by show f.2.len - (k + 1) < f.2.len - k; omega) (by simp only [e]; (repeat (first | exact True.intro | refine ⟨rfl, ?_⟩ | refine Sub.int rfl (by omega) ?_))) rfl (by exact vsubX))
          | (have e : lifeUp (fl.take (k + 1)) = lk := by rw [hl2, if_neg (by omega)]
             exact N.round (u.1, u.2, k + 1) ⟨hlek.trans hu3, by show k + 1 ≤ _; omega, hu2, by show cacheOK u.2.c = true; rw [hu1]; exact e3, by show teachAll _ u.2.c = _; rw [hu1]; exact hct⟩ (by show f.2.len - (k + 1) < f.2.len - k; omega) (by simp only [e]; (repeat (first | exact True.intro | refine ⟨rfl, ?_⟩ | refine Sub.int rfl (by omega) ?_))) rfl (by exact vsubX))
          | trace_state
      · rw [teach_put e2] at hct
        repeat (any_goals (first | refine T.seq ?_ | refine T.region ?_ | (apply T.regionD wide; rfl) | refine TL.nil ?_ | refine N.next ?_ | refine N.inBlock ?_ | refine N.exit_same ?_ | refine N.exit_then ?_ | refine N.ret_then ?_ | refine N.ret_block ?_ | (apply N.exit_other; rfl) | refine T.ret ?_ | refine T.skip ?_ | refine T.exit ?_ | refine T.block ?_ | (apply T.cond_true; rfl) | (apply T.cond_false; rfl) | (apply T.test; rfl; (exact visX); intro _; rotate_left; intro _; rotate_right) | (apply TL.skip; rfl; rfl; rfl) | (apply TL.skip_none; rfl; rfl) | (apply GT.skip; rfl; rfl; rfl; decide +kernel) | (apply TL.val; rfl; rfl; (apply V.load_H_row; rfl; rfl; rfl; exact hgk.row hlt; rfl)) | (apply GT.read; rfl; rfl; rfl; rfl; (apply V.load_H_row; rfl; rfl; rfl; exact hgk.row hlt; rfl); decide +kernel) | (apply GS.grow; rfl; rfl; (apply X.callFE (f := 96) [.agg (enc ck).toArray, .agg (enc (f.2.els[k]'hk2)).toArray, strV zone, intV now] Tryz.call96; rfl; rfl; rfl; exact (fun _ hs => hcP e1 hs.sat)); intro u hu; obtain ⟨⟨hu1, hu2⟩, hu3⟩ := hu; simp only at hu1; have hgu := hgk.mono hu3; have hxu := Enc.mono hu3 hx) | (apply TL.x; rfl; rfl; (apply X.storeTo 0 (enc u.2); (iterate 10 rfl)); intro _ _) | (apply GS.eff; rfl; decide +kernel; rfl; (apply X.storeTo 0 (enc u.2); (iterate 10 rfl)); intro _ _) | (apply TL.x; rfl; rfl; (apply X.storeTo 1 (enc u.2); (iterate 10 rfl)); intro _ _) | (apply GS.eff; rfl; decide +kernel; rfl; (apply X.storeTo 1 (enc u.2); (iterate 10 rfl)); intro _ _) | (apply TL.val; rfl; rfl; (apply V.load_H; rfl; rfl; rfl; exact hgu.cell hlt rfl)) | (apply GT.read; rfl; rfl; rfl; rfl; (apply V.load_H; rfl; rfl; rfl; exact hgu.cell hlt rfl); decide +kernel) | (apply TL.val; rfl; rfl; (apply V.elem (j := 0); (iterate 6 rfl); exact hdp2; exact hxu.1.2.2.2.at_ hdp2)) | (apply GT.pure; rfl; rfl; rfl; rfl; (apply V.elem (j := 0); (iterate 6 rfl); exact hdp2; exact hxu.1.2.2.2.at_ hdp2); decide +kernel) | (apply TL.val; rfl; rfl; (apply V.load_H; rfl; rfl; rfl; exact hxu.1.2.2.2.cell (j := 2) hdp2 rfl)) | (apply GT.read; rfl; rfl; rfl; rfl; (apply V.load_H; rfl; rfl; rfl; exact hxu.1.2.2.2.cell (j := 2) hdp2 rfl); decide +kernel) | (apply TL.val; rfl; rfl; (first | exact vpure | exact vread)) | (apply GT.pure; rfl; rfl; rfl; rfl; exact vpure; decide +kernel) | (apply GT.read; rfl; rfl; rfl; rfl; (first | exact vpure | exact vread); decide +kernel) | (apply GT.done; decide +kernel; apply N.ofQ) | (apply GT.adv; rfl) | (apply TL.x; rfl; rfl; (first | exact xgrow | exact xput); intro _ _) | (apply GS.grow; rfl; rfl; exact xgrow; intro _ _) | (apply GS.eff; rfl; decide +kernel; rfl; exact xput; intro _ _) | (apply TL.guard; rfl; rfl; rfl; (exact visX); intro _; rotate_left; intro _; rotate_right) | (apply GT.guard; rfl; rfl; rfl; rfl; (exact visX); intro _; rotate_left; intro _; rotate_right) | (apply GT.fork1; decide +kernel) | (apply GT.fork2 1; decide +kernel) | (apply GT.fork2 2; decide +kernel) | (apply GT.fork2 3; decide +kernel) | (apply GT.fork2 4; decide +kernel) | (apply GT.fork2 5; decide +kernel) | (apply GT.fork2 6; decide +kernel) | (apply GT.fork2 7; decide +kernel) | (apply GT.fork2 8; decide +kernel) | (apply GT.fork2 9; decide +kernel) | (apply GT.fork2 10; decide +kernel) | (apply GT.fork2 11; decide +kernel) | (apply GT.fork2 12; decide +kernel) | (apply GT.fork2 13; decide +kernel) | (apply GT.fork2 14; decide +kernel) | (apply GT.fork2 15; decide +kernel) | (apply GT.fork2 16; decide +kernel) | (apply GT.fork2 17; decide +kernel) | (apply GT.fork2 18; decide +kernel) | (apply GT.fork2 19; decide +kernel) | (apply GT.fork2 20; decide +kernel) | (apply GT.fork2 21; decide +kernel) | (apply GT.fork2 22; decide +kernel) | (apply GT.fork2 23; decide +kernel)))
        all_goals (try contradiction)
        all_goals (try (exfalso; omega))
        all_goals first
          | (have e : lifeUp (fl.take (k + 1)) = ((f.2.els[k]'hk2).set.data.els[0]'hdp).m := by rw [hl2, if_pos ⟨by assumption, by omega⟩]
             exact N.round (u.1, ck, k + 1) ⟨hlek.trans hu3, by show k + 1 ≤ _; omega, Enc.mono hu3 hcg, hco, hct⟩ (by show f.2.len - (k + 1) < f.2.len - k; omega) (by simp only [e]; (repeat (first | exact True.intro | refine ⟨rfl, ?_⟩ | refine Sub.int rfl (by omega) ?_))) rfl (by exact vsubX))
          | (have e : lifeUp (fl.take (k + 1)) = lk := by rw [hl2, if_neg (by omega)]
             exact N.round (u.1, ck, k + 1) ⟨hlek.trans hu3, by show k + 1 ≤ _; omega, Enc.mono hu3 hcg, hco, hct⟩ (by show f.2.len - (k + 1) < f.2.len - k; omega) (by simp only [e]; (repeat (first | exact True.intro | refine ⟨rfl, ?_⟩ | refine Sub.int rfl (by omega) ?_))) rfl (by exact vsubX))
          | trace_state
      · rw [teach_full e2] at hct
        repeat (any_goals (first | refine T.seq ?_ | refine T.region ?_ | (apply T.regionD wide; rfl) | refine TL.nil ?_ | refine N.next ?_ | refine N.inBlock ?_ | refine N.exit_same ?_ | refine N.exit_then ?_ | refine N.ret_then ?_ | refine N.ret_block ?_ | (apply N.exit_other; rfl) | refine T.ret ?_ | refine T.skip ?_ | refine T.exit ?_ | refine T.block ?_ | (apply T.cond_true; rfl) | (apply T.cond_false; rfl) | (apply T.test; rfl; (exact visX); intro _; rotate_left; intro _; rotate_right) | (apply TL.skip; rfl; rfl; rfl) | (apply TL.skip_none; rfl; rfl) | (apply GT.skip; rfl; rfl; rfl; decide +kernel) | (apply TL.val; rfl; rfl; (apply V.build; (iterate 6 rfl))) | (apply GT.pure; rfl; rfl; rfl; rfl; (apply V.build; (iterate 6 rfl)); decide +kernel) | (apply TL.val; rfl; rfl; (apply V.load_H_row; rfl; rfl; rfl; exact hgk.row hlt; rfl)) | (apply GT.read; rfl; rfl; rfl; rfl; (apply V.load_H_row; rfl; rfl; rfl; exact hgk.row hlt; rfl); decide +kernel) | (apply GS.grow; rfl; rfl; (apply X.callFE (f := 96) [.agg (enc ck).toArray, .agg (enc (f.2.els[k]'hk2)).toArray, strV zone, intV now] Tryz.call96; rfl; rfl; rfl; exact (fun _ hs => hcP e1 hs.sat)); intro u hu; obtain ⟨⟨hu1, hu2⟩, hu3⟩ := hu; simp only at hu1; have hgu := hgk.mono hu3; have hxu := Enc.mono hu3 hx) | (apply TL.x; rfl; rfl; (apply X.storeTo 0 (enc u.2); (iterate 10 rfl)); intro _ _) | (apply GS.eff; rfl; decide +kernel; rfl; (apply X.storeTo 0 (enc u.2); (iterate 10 rfl)); intro _ _) | (apply TL.x; rfl; rfl; (apply X.storeTo 1 (enc u.2); (iterate 10 rfl)); intro _ _) | (apply GS.eff; rfl; decide +kernel; rfl; (apply X.storeTo 1 (enc u.2); (iterate 10 rfl)); intro _ _) | (apply TL.val; rfl; rfl; (apply V.load_H; rfl; rfl; rfl; exact hgu.cell hlt rfl)) | (apply GT.read; rfl; rfl; rfl; rfl; (apply V.load_H; rfl; rfl; rfl; exact hgu.cell hlt rfl); decide +kernel) | (apply TL.val; rfl; rfl; (apply V.elem (j := 0); (iterate 6 rfl); exact hdp2; exact hxu.1.2.2.2.at_ hdp2)) | (apply GT.pure; rfl; rfl; rfl; rfl; (apply V.elem (j := 0); (iterate 6 rfl); exact hdp2; exact hxu.1.2.2.2.at_ hdp2); decide +kernel) | (apply TL.val; rfl; rfl; (apply V.load_H; rfl; rfl; rfl; exact hxu.1.2.2.2.cell (j := 2) hdp2 rfl)) | (apply GT.read; rfl; rfl; rfl; rfl; (apply V.load_H; rfl; rfl; rfl; exact hxu.1.2.2.2.cell (j := 2) hdp2 rfl); decide +kernel) | (apply TL.val; rfl; rfl; (first | exact vpure | exact vread)) | (apply GT.pure; rfl; rfl; rfl; rfl; exact vpure; decide +kernel) | (apply GT.read; rfl; rfl; rfl; rfl; (first | exact vpure | exact vread); decide +kernel) | (apply GT.done; decide +kernel; apply N.ofQ) | (apply GT.adv; rfl) | (apply TL.x; rfl; rfl; (first | exact xgrow | exact xput); intro _ _) | (apply GS.grow; rfl; rfl; exact xgrow; intro _ _) | (apply GS.eff; rfl; decide +kernel; rfl; exact xput; intro _ _) | (apply TL.guard; rfl; rfl; rfl; (exact visX); intro _; rotate_left; intro _; rotate_right) | (apply GT.guard; rfl; rfl; rfl; rfl; (exact visX); intro _; rotate_left; intro _; rotate_right) | (apply GT.fork1; decide +kernel) | (apply GT.fork2 1; decide +kernel) | (apply GT.fork2 2; decide +kernel) | (apply GT.fork2 3; decide +kernel) | (apply GT.fork2 4; decide +kernel) | (apply GT.fork2 5; decide +kernel) | (apply GT.fork2 6; decide +kernel) | (apply GT.fork2 7; decide +kernel) | (apply GT.fork2 8; decide +kernel) | (apply GT.fork2 9; decide +kernel) | (apply GT.fork2 10; decide +kernel) | (apply GT.fork2 11; decide +kernel) | (apply GT.fork2 12; decide +kernel) | (apply GT.fork2 13; decide +kernel) | (apply GT.fork2 14; decide +kernel) | (apply GT.fork2 15; decide +kernel) | (apply GT.fork2 16; decide +kernel) | (apply GT.fork2 17; decide +kernel) | (apply GT.fork2 18; decide +kernel) | (apply GT.fork2 19; decide +kernel) | (apply GT.fork2 20; decide +kernel) | (apply GT.fork2 21; decide +kernel) | (apply GT.fork2 22; decide +kernel) | (apply GT.fork2 23; decide +kernel)))
        all_goals (try contradiction)
        all_goals (try (exfalso; omega))
        all_goals exact N.ret2 rfl (by (exact rvx)) (by (exact rvx)) fun w1 hst => zero_end hst hct.symm
    · have hke : k = f.2.len := by omega
      subst hke
      have hfl2 : fl.length = f.2.len := by rw [← hf1, List.length_map]; exact hfn
      rw [List.drop_eq_nil_of_le (by omega)] at hct
      have hct : teachAll (tailM zone q a.kind fl now) ck.c = _ := hct
      rw [List.take_of_length_le (by omega), ← hct]
      have hqk := Enc.mono (hle0.trans hlek) hq
      cases hfi : fl.find? isStart with
      | none =>
        have hlv : lifeUp fl = -1 := by unfold lifeUp; rw [hfi]
        have htv : teachAll (tailM zone q a.kind fl now) ck.c = (ck.c, 0) := by unfold tailM; rw [hfi]; rfl
        rw [hlv, htv]
        repeat (any_goals (first | refine T.seq ?_ | refine T.region ?_ | (apply T.regionD wide; rfl) | refine TL.nil ?_ | refine N.next ?_ | refine N.inBlock ?_ | refine N.exit_same ?_ | refine N.exit_then ?_ | refine N.ret_then ?_ | refine N.ret_block ?_ | (apply N.exit_other; rfl) | refine T.ret ?_ | refine T.skip ?_ | refine T.exit ?_ | refine T.block ?_ | (apply T.cond_true; rfl) | (apply T.cond_false; rfl) | (apply T.test; rfl; (exact visX); intro _; rotate_left; intro _; rotate_right) | (apply TL.skip; rfl; rfl; rfl) | (apply TL.skip_none; rfl; rfl) | (apply GT.skip; rfl; rfl; rfl; decide +kernel) | (apply TL.x; rfl; rfl; (apply X.storeTo 1 (enc ck); (iterate 10 rfl)); intro _ _) | (apply GS.eff; rfl; decide +kernel; rfl; (apply X.storeTo 1 (enc ck); (iterate 10 rfl)); intro _ _) | (apply TL.val; rfl; rfl; (first | exact vpure | exact vread)) | (apply GT.pure; rfl; rfl; rfl; rfl; exact vpure; decide +kernel) | (apply GT.read; rfl; rfl; rfl; rfl; (first | exact vpure | exact vread); decide +kernel) | (apply GT.done; decide +kernel; apply N.ofQ) | (apply GT.adv; rfl) | (apply TL.x; rfl; rfl; (first | exact xgrow | exact xput); intro _ _) | (apply GS.grow; rfl; rfl; exact xgrow; intro _ _) | (apply GS.eff; rfl; decide +kernel; rfl; exact xput; intro _ _) | (apply TL.guard; rfl; rfl; rfl; (exact visX); intro _; rotate_left; intro _; rotate_right) | (apply GT.guard; rfl; rfl; rfl; rfl; (exact visX); intro _; rotate_left; intro _; rotate_right)))
        all_goals (try (exfalso; omega))
        all_goals exact N.ret2 rfl (by (exact rvx)) (by (exact rvx)) fun w hst => ⟨(Hk, ck), ⟨rfl, hcg⟩, rfl, hst.fresh⟩
      | some s =>
        have hlv : lifeUp fl = lifeOf s := by unfold lifeUp; rw [hfi]
        have hsm := List.mem_of_find?_eq_some hfi
        have hsl := start_life (hset s hsm) (List.find?_some hfi)
        rw [hlv]
        generalize hlo : lifeOf s = ls at hsl
        by_cases h56 : a.kind = 5 ∨ a.kind = 6
        · have htv : teachAll (tailM zone q a.kind fl now) ck.c = denyC ck.c q zone ls now := by
            unfold tailM; rw [hfi]
            simp only
            rw [if_pos h56, teach_deny, hlo]
          rw [htv]
          repeat (any_goals (first | refine T.seq ?_ | refine T.region ?_ | (apply T.regionD wide; rfl) | refine TL.nil ?_ | refine N.next ?_ | refine N.inBlock ?_ | refine N.exit_same ?_ | refine N.exit_then ?_ | refine N.ret_then ?_ | refine N.ret_block ?_ | (apply N.exit_other; rfl) | refine T.ret ?_ | refine T.skip ?_ | refine T.exit ?_ | refine T.block ?_ | (apply T.cond_true; rfl) | (apply T.cond_false; rfl) | (apply T.test; rfl; (exact visX); intro _; rotate_left; intro _; rotate_right) | (apply TL.skip; rfl; rfl; rfl) | (apply TL.skip_none; rfl; rfl) | (apply GT.skip; rfl; rfl; rfl; decide +kernel) | (apply TL.x; rfl; rfl; (apply X.callFE (f := 97) [.agg (enc ck).toArray, .agg (enc q).toArray, strV zone, intV ls, intV now] Tryz.call97; rfl; rfl; rfl; exact (fun _ hs => c_Deny22 ck q zone ls now _ _ hs.sat hcg hqk hz ⟨by omega, by omega⟩)); intro u hu) | (apply TL.x; rfl; rfl; (apply X.storeTo 1 (enc u.2); (iterate 10 rfl)); intro _ _) | (apply GS.eff; rfl; decide +kernel; rfl; (apply X.storeTo 1 (enc u.2); (iterate 10 rfl)); intro _ _) | (apply TL.val; rfl; rfl; (first | exact vpure | exact vread)) | (apply GT.pure; rfl; rfl; rfl; rfl; exact vpure; decide +kernel) | (apply GT.read; rfl; rfl; rfl; rfl; (first | exact vpure | exact vread); decide +kernel) | (apply GT.done; decide +kernel; apply N.ofQ) | (apply GT.adv; rfl) | (apply TL.x; rfl; rfl; (first | exact xgrow | exact xput); intro _ _) | (apply GS.grow; rfl; rfl; exact xgrow; intro _ _) | (apply GS.eff; rfl; decide +kernel; rfl; exact xput; intro _ _) | (apply TL.guard; rfl; rfl; rfl; (exact visX); intro _; rotate_left; intro _; rotate_right) | (apply GT.guard; rfl; rfl; rfl; rfl; (exact visX); intro _; rotate_left; intro _; rotate_right)))
          all_goals (try (exfalso; omega))
          all_goals exact N.ret2 rfl (by (exact rvx)) (by (exact rvx)) fun w hst => ⟨u, hu.1, rfl, hst.fresh⟩
        · have htv : teachAll (tailM zone q a.kind fl now) ck.c = (ck.c, 0) := by
            unfold tailM; rw [hfi]
            simp only
            rw [if_neg h56]; rfl
          rw [htv]
          repeat (any_goals (first | refine T.seq ?_ | refine T.region ?_ | (apply T.regionD wide; rfl) | refine TL.nil ?_ | refine N.next ?_ | refine N.inBlock ?_ | refine N.exit_same ?_ | refine N.exit_then ?_ | refine N.ret_then ?_ | refine N.ret_block ?_ | (apply N.exit_other; rfl) | refine T.ret ?_ | refine T.skip ?_ | refine T.exit ?_ | refine T.block ?_ | (apply T.cond_true; rfl) | (apply T.cond_false; rfl) | (apply T.test; rfl; (exact visX); intro _; rotate_left; intro _; rotate_right) | (apply TL.skip; rfl; rfl; rfl) | (apply TL.skip_none; rfl; rfl) | (apply GT.skip; rfl; rfl; rfl; decide +kernel) | (apply TL.x; rfl; rfl; (apply X.storeTo 1 (enc ck); (iterate 10 rfl)); intro _ _) | (apply GS.eff; rfl; decide +kernel; rfl; (apply X.storeTo 1 (enc ck); (iterate 10 rfl)); intro _ _) | (apply TL.val; rfl; rfl; (first | exact vpure | exact vread)) | (apply GT.pure; rfl; rfl; rfl; rfl; exact vpure; decide +kernel) | (apply GT.read; rfl; rfl; rfl; rfl; (first | exact vpure | exact vread); decide +kernel) | (apply GT.done; decide +kernel; apply N.ofQ) | (apply GT.adv; rfl) | (apply TL.x; rfl; rfl; (first | exact xgrow | exact xput); intro _ _) | (apply GS.grow; rfl; rfl; exact xgrow; intro _ _) | (apply GS.eff; rfl; decide +kernel; rfl; exact xput; intro _ _) | (apply TL.guard; rfl; rfl; rfl; (exact visX); intro _; rotate_left; intro _; rotate_right) | (apply GT.guard; rfl; rfl; rfl; rfl; (exact visX); intro _; rotate_left; intro _; rotate_right)))
          all_goals (try (exfalso; omega))
          all_goals exact N.ret2 rfl (by (exact rvx)) (by (exact rvx)) fun w hst => ⟨(Hk, ck), ⟨rfl, hcg⟩, rfl, hst.fresh⟩
  · have hlp : learnP zone q a.c now (filterF zone q a.c).1 c.c = ([], 1) := by
      unfold learnP
      rw [h1, h2, h5, h6, if_pos]
      cases hn : v3 with
      | false =>
        have hzv : zoneV zone = false := by unfold zoneV; rw [h3, hn]; rfl
        rw [hzv]; simp
      | true =>
        rw [zoneV_wild (h3.trans hn), h4]
        cases v1 <;> cases v2 <;> cases v4 <;> cases v5 <;> cases v6 <;> first | rfl | exact absurd ⟨rfl, rfl, hn, rfl, rfl, rfl⟩ hv
    repeat (any_goals (first | refine T.seq ?_ | refine T.region ?_ | (apply T.regionD wide; rfl) | refine TL.nil ?_ | refine N.next ?_ | refine N.inBlock ?_ | refine N.exit_same ?_ | refine N.exit_then ?_ | refine N.ret_then ?_ | refine N.ret_block ?_ | (apply N.exit_other; rfl) | refine T.ret ?_ | refine T.skip ?_ | refine T.exit ?_ | refine T.block ?_ | (apply T.cond_true; rfl) | (apply T.cond_false; rfl) | (apply T.test; rfl; (exact visX); intro _; rotate_left; intro _; rotate_right) | (apply TL.skip; rfl; rfl; rfl) | (apply TL.skip_none; rfl; rfl) | (apply GT.skip; rfl; rfl; rfl; decide +kernel) | (apply TL.x; rfl; rfl; (apply X.box (d := 5); rfl; rfl; rfl); intro b5 _) | (apply TL.x; rfl; rfl; (apply X.box (d := 7); rfl; rfl; rfl); intro b7 _) | (apply TL.x; rfl; rfl; (apply X.box (d := 8); rfl; rfl; rfl); intro b8 _) | (apply TL.x; rfl; rfl; (apply X.alloc (d := 10); rfl; rfl; rfl); intro b10 _) | (apply TL.callE (f := 80) [.agg (enc c).toArray] Tryz.call80; rfl; rfl; rfl; rfl; (exact fun _ hs => h1 ▸ c_Valid22 c _ _ hs.sat hg)) | (apply GT.callE (f := 80) [.agg (enc c).toArray] Tryz.call80; (iterate 6 rfl); (exact fun _ hs => h1 ▸ c_Valid22 c _ _ hs.sat hg); decide +kernel) | (apply TL.callE (f := 81) [intV now] Tryz.call81; rfl; rfl; rfl; rfl; (exact fun _ hs => c_Time22B h2 hs.sat)) | (apply GT.callE (f := 81) [intV now] Tryz.call81; (iterate 6 rfl); (exact fun _ hs => c_Time22B h2 hs.sat); decide +kernel) | (apply TL.callE (f := 92) [strV zone] Tryz.call92; rfl; rfl; rfl; rfl; (exact fun _ hs => h3 ▸ c_nameValid01 _ _ _ hs.sat hz)) | (apply GT.callE (f := 92) [strV zone] Tryz.call92; (iterate 6 rfl); (exact fun _ hs => h3 ▸ c_nameValid01 _ _ _ hs.sat hz); decide +kernel) | (apply TL.callE (f := 93) [strV zone] Tryz.call93; rfl; rfl; rfl; rfl; (exact fun _ hs => h4 ▸ c_Wild01 zone _ _ hs.sat hzb)) | (apply GT.callE (f := 93) [strV zone] Tryz.call93; (iterate 6 rfl); (exact fun _ hs => h4 ▸ c_Wild01 zone _ _ hs.sat hzb); decide +kernel) | (apply TL.callE (f := 39) [.agg (enc q).toArray] Tryz.call39; rfl; rfl; rfl; rfl; (exact fun _ hs => h5 ▸ c_Question06 q _ _ hs.sat hq)) | (apply GT.callE (f := 39) [.agg (enc q).toArray] Tryz.call39; (iterate 6 rfl); (exact fun _ hs => h5 ▸ c_Question06 q _ _ hs.sat hq); decide +kernel) | (apply TL.callE (f := 70) [.agg (enc a).toArray] Tryz.call70; rfl; rfl; rfl; rfl; (exact fun _ hs => h6 ▸ c_Answer26 a _ _ hs.sat ha)) | (apply GT.callE (f := 70) [.agg (enc a).toArray] Tryz.call70; (iterate 6 rfl); (exact fun _ hs => h6 ▸ c_Answer26 a _ _ hs.sat ha); decide +kernel) | (apply TL.val; rfl; rfl; (apply V.build; (iterate 6 rfl))) | (apply GT.pure; rfl; rfl; rfl; rfl; (apply V.build; (iterate 6 rfl)); decide +kernel) | (apply TL.x; rfl; rfl; (apply X.callFE (f := 94) [.agg (enc c).toArray, intV now] Tryz.call94; rfl; rfl; rfl; exact (fun _ hs => c_Clean22 c now _ _ hs.sat hg)); exfalso; exact hv ⟨by assumption, by assumption, by assumption, by assumption, by assumption, by assumption⟩) | (apply TL.val; rfl; rfl; (first | exact vpure | exact vread)) | (apply GT.pure; rfl; rfl; rfl; rfl; exact vpure; decide +kernel) | (apply GT.read; rfl; rfl; rfl; rfl; (first | exact vpure | exact vread); decide +kernel) | (apply GT.done; decide +kernel; apply N.ofQ) | (apply GT.adv; rfl) | (apply TL.x; rfl; rfl; (first | exact xgrow | exact xput); intro _ _) | (apply GS.grow; rfl; rfl; exact xgrow; intro _ _) | (apply GS.eff; rfl; decide +kernel; rfl; exact xput; intro _ _) | (apply TL.guard; rfl; rfl; rfl; (exact visX); intro _; rotate_left; intro _; rotate_right) | (apply GT.guard; rfl; rfl; rfl; rfl; (exact visX); intro _; rotate_left; intro _; rotate_right)))
    all_goals first
      | exact N.ret2 rfl (by (exact rvx)) (by (exact rvx)) fun w1 hst => zero_end hst hlp
      | (exfalso; exact hv ⟨by assumption, by assumption, by assumption, by assumption, by assumption, by assumption⟩)
      | (exfalso; simp_all; done)
end Go.Proofs.YtogcofeencgipaaGreatDoor
