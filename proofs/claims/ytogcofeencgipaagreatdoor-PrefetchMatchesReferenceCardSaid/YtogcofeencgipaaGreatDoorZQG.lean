/- Walks: prefetch.Learn. -/
import Derived.Test.YtogcofeencgipaaGreatDoorZQF
namespace Go.Proofs.YtogcofeencgipaaGreatDoor
set_option linter.unusedVariables false
set_option linter.unusedSimpArgs false
open Go Go.RowKit
open Enc (enc)
set_option maxRecDepth 20000
def teachAll : List (List EntryC → List EntryC × Int) → List EntryC → List EntryC × Int
  | [], c => (c, 0)
  | f :: t, c => if (f c).2 = 0 then teachAll t (f c).1 else ([], (f c).2)
/-- What 'Learn' hands back, where the answer's sets that are taken are `l`. -/
def learnP (zone : Bytes) (q : Question) (a : AnswerC) (now : Int) (l : List SignedC) (c : List EntryC) : List EntryC × Int :=
  if !(cacheOK c && isT now && zoneV zone && questionOK q && answerOK a) then ([], 1) else teachAll (lesM zone q a.kind l now) c
theorem put_keeps {c : List EntryC} {s : SignedC} {zone : Bytes} {now : Int} (h2 : (putC c s zone now).2 = 0) : cacheOK (putC c s zone now).1 = true := by
  rcases put_cases c s zone now with ⟨k, h, hk⟩ | ⟨h, e⟩
  · rw [h] at h2; exact absurd h2 hk
  · rw [e]; exact put_ok h
theorem les_keeps {zone : Bytes} {q : Question} {k : Int} {l : List SignedC} {now : Int} {f : List EntryC → List EntryC × Int} (hf : f ∈ lesM zone q k l now) {c : List EntryC} (hc : cacheOK c = true) (h2 : (f c).2 = 0) : cacheOK (f c).1 = true := by
  unfold lesM at hf
  rcases List.mem_append.1 hf with h | h
  · rcases List.mem_cons.1 h with rfl | h
    · have h2 : (cleanC c now).2 = 0 := h2
      show cacheOK (cleanC c now).1 = true
      by_cases h3 : (!(cacheOK c && isT now)) = true
      · have e : cleanC c now = ([], 1) := by unfold cleanC; rw [if_pos h3]
        rw [e] at h2; cases h2
      · have e : cleanC c now = (freshC c now, 0) := by unfold cleanC; rw [if_neg h3]
        rw [e]; exact cache_sub hc (fresh_sub ..)
    · obtain ⟨s, _, rfl⟩ := List.mem_map.1 h
      show cacheOK (putM s zone now c).1 = true
      have h2 : (putM s zone now c).2 = 0 := h2
      by_cases h3 : (putC c s zone now).2 = 30
      · have e : putM s zone now c = (c, 0) := by unfold putM; rw [if_pos h3]
        rw [e]; exact hc
      · have e : putM s zone now c = putC c s zone now := by unfold putM; rw [if_neg h3]
        rw [e] at h2 ⊢
        exact put_keeps h2
  · cases hf1 : l.find? isStart with
    | none => rw [hf1] at h; cases h
    | some s0 =>
      rw [hf1] at h
      simp only at h
      split at h
      · rw [List.mem_singleton] at h
        subst h
        simp only at h2 ⊢
        rcases deny_cases c q zone (lifeOf _) now with ⟨k, h3, hk⟩ | ⟨h3, e⟩
        · rw [h3] at h2; exact absurd h2 hk
        · rw [e]; exact deny_ok h3
      · cases h
set_option maxHeartbeats 8000000 in
theorem c_LearnG (fl : List SignedC) (c : Cache) (zone : Bytes) (q : Question) (a : Answer) (now : Int) (H : Hp) (w : World) (hs : Sat H w) (hR : Rules H) (hg : Enc.good H c) (hz : LenOk zone) (hq : Enc.good H q) (ha : Enc.good H a) (hnow : I64 now)
    (hF : zoneV zone = true → questionOK q = true → answerOK a.c = true → ∀ w, Sat H w → Calls Tryz.prog 89 #[strV zone, .agg (enc q).toArray, .agg (enc a).toArray] w (RetF w H (fun g : Hp × Slc Signed => g.2.els.map Signed.c = fl ∧ g.2.Good g.1 ∧ g.2.len ≤ 40) (fun g => .tuple #[g.2.v, intV 0]) (fun g => g.1)))
    (hset : answerOK a.c = true → ∀ x ∈ fl, setOK x.set = true) : Calls Tryz.prog 31 #[.agg (enc c).toArray, strV zone, .agg (enc q).toArray, .agg (enc a).toArray, intV now] w (Caches w H (learnP zone q a.c now fl c.c)) := by
  refine T.enter (vs := [.agg (enc c).toArray, strV zone, .agg (enc q).toArray, .agg (enc a).toArray, intV now]) (H := H) Tryz.func31 rfl rfl rfl hs ?_
  have hv1 : ∀ {w : World}, Sat H w → Calls Tryz.prog 44 #[.agg (enc c).toArray] w (Ret w (.bool (cacheOK c.c))) := fun hs => c_validV c rfl hs hR hg
  have hv2 : ∀ {w : World}, Sat H w → Calls Tryz.prog 77 #[intV now] w (Ret w (.bool (isT now))) := fun hs => c_ptime now _ _ hs
  cases h1 : cacheOK c.c && isT now && zoneV zone && questionOK q && (questionOK q && answerOK a.c) with
  | false =>
    have hf : learnP zone q a.c now fl c.c = ([], 1) := by
      unfold learnP
      rw [if_pos]
      cases e1 : cacheOK c.c <;> cases e2 : isT now <;> cases e3 : zoneV zone <;> cases e4 : questionOK q <;> cases e5 : answerOK a.c <;> first | rfl | (rw [e1, e2, e3, e4, e5] at h1; cases h1)
    repeat (any_goals (first | refine T.seq ?_ | refine T.region ?_ | refine TL.nil ?_ | refine N.next ?_ | refine N.inBlock ?_ | refine N.exit_same ?_ | refine N.exit_then ?_ | refine N.ret_then ?_ | refine N.ret_block ?_ | (apply N.exit_other; rfl) | refine T.ret ?_ | refine T.skip ?_ | refine T.exit ?_ | refine T.block ?_ | (apply T.cond_true; rfl) | (apply T.cond_false; rfl) | (apply T.test; rfl; (with_reducible (first | exact Is.ndec | exact Is.dec | exact Is.not | ((fail_if_success exact Is.litT); (fail_if_success exact Is.litF); exact Is.base))); intro _; rotate_left; intro _; rotate_right) | (apply TL.skip; rfl; rfl; rfl) | (apply TL.skip_none; rfl; rfl) | (apply TL.callE (f := 44) [.agg (enc c).toArray] Tryz.call44; rfl; rfl; rfl; rfl; (exact fun _ hs => hv1 hs.sat)) | (apply TL.callE (f := 77) [intV now] Tryz.call77; rfl; rfl; rfl; rfl; (exact fun _ hs => hv2 hs.sat)) | (apply TL.callE (f := 87) [strV zone] Tryz.call87; rfl; rfl; rfl; rfl; (exact fun _ hs => c_pzoneOK zone _ _ hs.sat hz)) | (apply TL.callE (f := 83) [.agg (enc q).toArray] Tryz.call83; rfl; rfl; rfl; rfl; (exact fun _ hs => c_pquestion q _ _ hs.sat hq)) | (apply TL.callE (f := 88) [.agg (enc q).toArray, .agg (enc a).toArray] Tryz.call88; rfl; rfl; rfl; rfl; (exact fun _ hs => c_panswer q a _ _ hs.sat hR hq ha)) | (apply TL.val; rfl; rfl; (apply V.build; rfl; rfl; rfl; rfl; rfl; rfl)) | (apply TL.val; rfl; rfl; (first | exact vpure | exact vread)) | (apply TL.x; rfl; rfl; (first | exact xgrow | exact xput); intro _ _) | (apply TL.guard; rfl; rfl; rfl; (with_reducible (first | exact Is.ndec | exact Is.dec | exact Is.not | ((fail_if_success exact Is.litT); (fail_if_success exact Is.litF); exact Is.base))); intro _; rotate_left; intro _; rotate_right)))
    all_goals first
      | (refine N.ret2 rfl (by (exact rvx)) (by (exact rvx)) fun w1 hst => ?_
         exact zero_end hst hf)
      | (exfalso; simp_all; done)
  | true =>
  have hb : cacheOK c.c = true ∧ isT now = true ∧ zoneV zone = true ∧ questionOK q = true ∧ answerOK a.c = true := by
    simp only [Bool.and_eq_true] at h1
    exact ⟨h1.1.1.1.1, h1.1.1.1.2, h1.1.1.2, h1.1.2, h1.2.2⟩
  obtain ⟨b1, b2, b3, b4, b5⟩ := hb
  have hlp : learnP zone q a.c now fl c.c = teachAll (lesM zone q a.kind fl now) c.c := by
    unfold learnP; rw [b1, b2, b3, b4, b5]; rfl
  rw [hlp]
  have hkeep := @les_keeps zone q a.kind fl now
  have hset' := hset b5
  generalize hms : lesM zone q a.kind fl now = ms at hkeep ⊢
  have a1 : ∀ {w : World}, Sat H w → Calls Tryz.prog 44 #[.agg (enc c).toArray] w (Ret w (.bool true)) := fun hs => c_validV c b1 hs hR hg
  have a2 : ∀ {w : World}, Sat H w → Calls Tryz.prog 77 #[intV now] w (Ret w (.bool true)) := fun hs => b2 ▸ hv2 hs
  have a3 : ∀ {w : World}, Sat H w → Calls Tryz.prog 87 #[strV zone] w (Ret w (.bool true)) := fun hs => b3 ▸ c_pzoneOK zone _ _ hs hz
  have a4 : ∀ {w : World}, Sat H w → Calls Tryz.prog 83 #[.agg (enc q).toArray] w (Ret w (.bool true)) := fun hs => b4 ▸ c_pquestion q _ _ hs hq
  have a5 : ∀ {w : World}, Sat H w → Calls Tryz.prog 88 #[.agg (enc q).toArray, .agg (enc a).toArray] w (Ret w (.bool true)) := fun hs => (by have := c_panswer q a _ _ hs hR hq ha; rwa [b4, b5] at this)
  repeat (any_goals (first | refine T.seq ?_ | refine T.region ?_ | refine TL.nil ?_ | refine N.next ?_ | refine N.inBlock ?_ | refine N.exit_same ?_ | refine N.exit_then ?_ | refine N.ret_then ?_ | refine N.ret_block ?_ | (apply N.exit_other; rfl) | refine T.ret ?_ | refine T.skip ?_ | refine T.exit ?_ | refine T.block ?_ | (apply T.cond_true; rfl) | (apply T.cond_false; rfl) | (apply T.test; rfl; (with_reducible (first | exact Is.ndec | exact Is.dec | exact Is.not | ((fail_if_success exact Is.litT); (fail_if_success exact Is.litF); exact Is.base))); intro _; rotate_left; intro _; rotate_right) | (apply TL.skip; rfl; rfl; rfl) | (apply TL.skip_none; rfl; rfl) | (apply TL.x; rfl; rfl; (apply X.box (d := 5); rfl; rfl; rfl); intro g5 _) | (apply TL.x; rfl; rfl; (apply X.alloc (d := 10); rfl; rfl; rfl); intro g10 _) | (apply TL.callE (f := 44) [.agg (enc c).toArray] Tryz.call44; rfl; rfl; rfl; rfl; (exact fun _ hs => a1 hs.sat)) | (apply TL.callE (f := 77) [intV now] Tryz.call77; rfl; rfl; rfl; rfl; (exact fun _ hs => a2 hs.sat)) | (apply TL.callE (f := 87) [strV zone] Tryz.call87; rfl; rfl; rfl; rfl; (exact fun _ hs => a3 hs.sat)) | (apply TL.callE (f := 83) [.agg (enc q).toArray] Tryz.call83; rfl; rfl; rfl; rfl; (exact fun _ hs => a4 hs.sat)) | (apply TL.callE (f := 88) [.agg (enc q).toArray, .agg (enc a).toArray] Tryz.call88; rfl; rfl; rfl; rfl; (exact fun _ hs => a5 hs.sat)) | (apply TL.x; rfl; rfl; (apply X.callFE (d := 45) (f := 89) [strV zone, .agg (enc q).toArray, .agg (enc a).toArray] Tryz.call89; rfl; rfl; rfl; exact (fun _ hs => hF b3 b4 b5 _ hs.sat)); rintro ⟨H1, sl⟩ ⟨⟨hs1, hs2, hs3⟩, hle1⟩; simp only at hs1 hs2 hs3 hle1 ⊢; have hq1 := Enc.mono hle1 hq; have ha1 := Enc.mono hle1 ha; have hset1 : ∀ x ∈ sl.els, setOK x.set.c = true := fun x hx => hset' x.c (hs1 ▸ List.mem_map_of_mem hx)) | (apply TL.x; rfl; rfl; (apply X.callFE (d := 57) (f := 90) [strV zone, .agg (enc q).toArray, .agg (enc a).toArray, sl.v, intV now] Tryz.call90; rfl; rfl; rfl; exact (fun _ hs => c_lessons zone q a sl now _ _ hs.sat hz hq1 ha1 hs2 hs3 hset1 hnow)); rintro ⟨H2, ls⟩ ⟨⟨hl1, hl2, hl3⟩, hle2⟩; simp only at hl1 hl2 hl3 hle2 ⊢) | (apply TL.val; rfl; rfl; (first | exact vpure | exact vread)) | (apply TL.x; rfl; rfl; (first | exact xgrow | exact xput); intro _ _) | (apply TL.guard; rfl; rfl; rfl; (with_reducible (first | exact Is.ndec | exact Is.dec | exact Is.not | ((fail_if_success exact Is.litT); (fail_if_success exact Is.litF); exact Is.base))); intro _; rotate_left; intro _; rotate_right)))
  all_goals (try contradiction)
  have hmn : ms.length = ls.els.length := by rw [← List.length_map LesV.m, hl1, hs1, hms]
  have hlm : ∀ k (hk : k < ls.els.length), ms[k]? = some (ls.els[k]'hk).m := fun k hk => by
    have : (ls.els.map LesV.m)[k]? = ms[k]? := by rw [hl1, hs1, hms]
    rw [← this, List.getElem?_map, List.getElem?_eq_getElem hk]; rfl
  have hle02 := hle1.trans hle2
  have hlen := hl2.len
  have hlim := hl2.lim
  refine T.loop (G := Hp × Cache × Nat) (fun g => [(5, .pointer (some ⟨g5, 0, none⟩)), (10, .pointer (some ⟨g10, 0, none⟩)), (57, ls.v), (58, intV ls.len), (59, intV g.2.2)]) (fun g => g.1) (fun g => [.blk g10 46 [.slice none 0 0], .blk g5 46 (enc g.2.1)]) (fun g => H2.le g.1 ∧ g.2.2 ≤ ls.len ∧ Enc.good g.1 g.2.1 ∧ cacheOK g.2.1.c = true ∧ teachAll (ms.drop g.2.2) g.2.1.c = teachAll ms c.c) (fun g => ls.len - g.2.2) (H2, c, 0) ⟨Hp.le.refl _, Nat.zero_le _, Enc.mono hle02 hg, b1, rfl⟩ (by (repeat (first | exact True.intro | refine ⟨rfl, ?_⟩ | refine Sub.int rfl (by omega) ?_))) rfl (by (repeat (first | exact List.Sublist.refl _ | exact List.nil_sublist _ | apply List.Sublist.cons_cons | apply List.Sublist.cons))) ?_
  rintro ⟨Hk, ck, i⟩ ⟨hlek, hi, hcg, hco, hct⟩
  simp only at hlek hi hcg hco hct ⊢
  by_cases hlt : i < ls.len
  · have hk2 : i < ls.els.length := by omega
    have hgk := hl2.mono hlek
    have hx : LesGood Hk (ls.els[i]'hk2) := hgk.els _ (List.getElem_mem hk2)
    have hRk := hR.mono (hle02.trans hlek)
    have hmi := hlm i hk2
    have hmem : (ls.els[i]'hk2).m ∈ ms := List.mem_of_getElem? hmi
    have hdr : ms.drop i = (ls.els[i]'hk2).m :: ms.drop (i + 1) := by
      obtain ⟨h, e⟩ := List.getElem?_eq_some_iff.1 hmi
      rw [List.drop_eq_getElem_cons h, e]
    rw [hdr] at hct
    generalize hfe : (ls.els[i]'hk2).m = f at hct hmem
    obtain ⟨⟨r, e⟩, hr⟩ : ∃ x, f ck.c = x := ⟨_, rfl⟩
    have hcall : ∀ {w : World}, Sat Hk w → Calls Tryz.prog (ls.els[i]'hk2).F (#[] ++ [Value.agg (enc ck).toArray].toArray ++ (ls.els[i]'hk2).cap) w (Caches w Hk (r, e)) := fun hs => by
      have := hx.2 ck Hk _ (Hp.le.refl _) hs hRk hcg
      rwa [hfe, hr] at this
    repeat (any_goals (first | refine T.seq ?_ | refine T.region ?_ | refine TL.nil ?_ | refine N.next ?_ | refine N.inBlock ?_ | refine N.exit_same ?_ | refine N.exit_then ?_ | refine N.ret_then ?_ | refine N.ret_block ?_ | (apply N.exit_other; rfl) | refine T.ret ?_ | refine T.skip ?_ | refine T.exit ?_ | refine T.block ?_ | (apply T.cond_true; rfl) | (apply T.cond_false; rfl) | (apply T.test; rfl; (with_reducible (first | exact Is.ndec | exact Is.dec | exact Is.not | ((fail_if_success exact Is.litT); (fail_if_success exact Is.litF); exact Is.base))); intro _; rotate_left; intro _; rotate_right) | (apply TL.skip; rfl; rfl; rfl) | (apply TL.skip_none; rfl; rfl) | (apply TL.val; rfl; rfl; (apply V.load_H; rfl; rfl; rfl; exact hgk.cell hlt rfl)) | (apply TL.x; rfl; rfl; (apply X.callF (d := 66) (f := (ls.els[i]'hk2).F) (first := #[]) (cap := (ls.els[i]'hk2).cap) (vs := [.agg (enc ck).toArray]); rfl; rfl; rfl; exact hx.1; exact (fun _ hs => hcall hs.sat)); rintro ⟨H3, c3⟩ ⟨⟨hc1, hc2⟩, hle3⟩; simp only at hc1 hc2 hle3 ⊢) | (apply TL.x; rfl; rfl; (apply X.storeTo 1 (enc c3); rfl; rfl; rfl; rfl; rfl; rfl; rfl; rfl; rfl; rfl); intro _ _) | (apply TL.val; rfl; rfl; (apply V.build; rfl; rfl; rfl; rfl; rfl; rfl)) | (apply TL.val; rfl; rfl; (first | exact vpure | exact vread)) | (apply TL.x; rfl; rfl; (first | exact xgrow | exact xput); intro _ _) | (apply TL.guard; rfl; rfl; rfl; (with_reducible (first | exact Is.ndec | exact Is.dec | exact Is.not | ((fail_if_success exact Is.litT); (fail_if_success exact Is.litF); exact Is.base))); intro _; rotate_left; intro _; rotate_right)))
    all_goals (try (exfalso; omega))
    all_goals first
      | (have he0 : ¬ e = 0 := by assumption
         have ht : teachAll ms c.c = ([], e) := by
           rw [← hct]; show (if (f ck.c).2 = 0 then _ else ([], (f ck.c).2)) = _
           rw [hr, if_neg he0]
         refine N.ret2 rfl (by (exact rvx)) (by (exact rvx)) fun w1 hst => ?_
         exact zero_end hst ht)
      | (have he0 : e = 0 := by assumption
         subst he0
         refine N.round (H3, c3, i + 1) ⟨hlek.trans hle3, by show i + 1 ≤ _; omega, hc2, ?_, ?_⟩ (by show ls.len - (i + 1) < ls.len - i; omega) (by (repeat (first | exact True.intro | refine ⟨rfl, ?_⟩ | refine Sub.int rfl (by omega) ?_))) rfl (List.Sublist.refl _)
         · show cacheOK c3.c = true
           have h := hkeep hmem hco (by rw [hr])
           rw [hr] at h; rw [hc1]; exact h
         · show teachAll (ms.drop (i + 1)) c3.c = _
           rw [← hct, hc1]
           show _ = if (f ck.c).2 = 0 then teachAll (ms.drop (i + 1)) (f ck.c).1 else ([], (f ck.c).2)
           rw [hr, if_pos rfl])
  · have hie : i = ls.len := by omega
    subst hie
    have hsh := short_of_ok hcg hco
    have hm := cache_len hcg hco
    repeat (any_goals (first | refine T.seq ?_ | refine T.region ?_ | refine TL.nil ?_ | refine N.next ?_ | refine N.inBlock ?_ | refine N.exit_same ?_ | refine N.exit_then ?_ | refine N.ret_then ?_ | refine N.ret_block ?_ | (apply N.exit_other; rfl) | refine T.ret ?_ | refine T.skip ?_ | refine T.exit ?_ | refine T.block ?_ | (apply T.cond_true; rfl) | (apply T.cond_false; rfl) | (apply T.test; rfl; (with_reducible (first | exact Is.ndec | exact Is.dec | exact Is.not | ((fail_if_success exact Is.litT); (fail_if_success exact Is.litF); exact Is.base))); intro _; rotate_left; intro _; rotate_right) | (apply TL.skip; rfl; rfl; rfl) | (apply TL.skip_none; rfl; rfl) | (apply TL.x; rfl; rfl; (apply X.callFE (f := 91) [.agg (enc ck).toArray] Tryz.call91; rfl; rfl; rfl; exact (fun _ hs => c_pcloned ck _ _ hs.sat hcg (by omega) hsh)); intro p hp) | (apply TL.x; rfl; rfl; (apply X.storeTo 0 (enc p.2); rfl; rfl; rfl; rfl; rfl; rfl; rfl; rfl; rfl; rfl); intro _ _) | (apply TL.val; rfl; rfl; (first | exact vpure | exact vread)) | (apply TL.x; rfl; rfl; (first | exact xgrow | exact xput); intro _ _) | (apply TL.guard; rfl; rfl; rfl; (with_reducible (first | exact Is.ndec | exact Is.dec | exact Is.not | ((fail_if_success exact Is.litT); (fail_if_success exact Is.litF); exact Is.base))); intro _; rotate_left; intro _; rotate_right)))
    all_goals (try (exfalso; omega))
    have ht : teachAll ms c.c = (ck.c, 0) := by
      rw [← hct, List.drop_eq_nil_of_le (by omega)]; rfl
    rw [ht]
    refine N.ret2 rfl (by (exact rvx)) (by (exact rvx)) fun w1 hst => ?_
    exact ⟨p, hp.1, rfl, hst.fresh⟩
end Go.Proofs.YtogcofeencgipaaGreatDoor
