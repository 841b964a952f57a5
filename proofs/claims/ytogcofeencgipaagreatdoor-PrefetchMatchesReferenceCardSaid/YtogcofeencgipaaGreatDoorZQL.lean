/- Walks: the examples of the head of the laws of prefetch. -/
import Derived.Test.YtogcofeencgipaaGreatDoorZQK
namespace Go.Proofs.YtogcofeencgipaaGreatDoor
set_option linter.unusedVariables false
set_option linter.unusedSimpArgs false
open Go Go.RowKit
open Enc (enc)
set_option maxRecDepth 20000
theorem filter_sets {zone : Bytes} {q : Question} {a : AnswerC} (h : answerOK a = true) : ∀ x ∈ (filterC zone q a).1, setOK x.set = true := fun x hx => by
  have hm : x ∈ a.sets := by
    unfold filterC at hx
    split at hx
    · cases hx
    · split at hx
      · cases hx
      · exact (List.mem_filter.1 hx).1
  unfold answerOK at h
  simp only [Bool.and_eq_true, decide_eq_true_eq, List.all_eq_true] at h
  have h5 := h.1.2 x hm
  unfold signedOK at h5
  simp only [Bool.and_eq_true, decide_eq_true_eq] at h5
  exact h5.1.2
theorem filter_ok {zone : Bytes} {q : Question} {a : AnswerC} (h1 : zoneV zone = true) (h2 : questionOK q = true) (h3 : answerOK a = true) : (filterC zone q a).2 = 0 := by
  unfold filterC
  rw [h1, h2, h3]
  split
  · rename_i h; cases h
  · split <;> rfl
/-- Learn, but for referrals. -/
theorem c_LearnNo (c : Cache) (zone : Bytes) (q : Question) (a : Answer) (now : Int) (hb : belowV a.cut zone = false) (H : Hp) (w : World) (hs : Sat H w) (hR : Rules H) (hg : Enc.good H c) (hz : LenOk zone) (hq : Enc.good H q) (ha : Enc.good H a) (hnow : I64 now) : Calls Tryz.prog 31 #[.agg (enc c).toArray, strV zone, .agg (enc q).toArray, .agg (enc a).toArray, intV now] w (Caches w H (learnP zone q a.c now (filterC zone q a.c).1 c.c)) :=
  c_LearnG _ c zone q a now H w hs hR hg hz hq ha hnow (fun h1 h2 h3 w hs => by
    have := c_FilterNo zone q a hb H w hs hR hz hq ha
    rwa [filter_ok h1 h2 h3] at this) (fun h => filter_sets h)
section
variable {P : Program} {n : FK} {w0 : World} {H0 H HS : Hp} {env : List (Nat × Value)} {L LS : List Loc} {ops : List Oper} {K : KZ} {k : Nat} {ex : List Nat} {fuel : Nat} {ok : Bool} {α : Type} [Enc α]
theorem GT.frzBlk32 (i : Nat) {b m : Nat} {e : TypeId} {cs : List Value} {els : List α} (hi : L[i]? = some (.blk b e cs)) (hcs : cs = encs els) (hm : els.length = m) (hb : m ≤ maxLen) (hg : ∀ x ∈ els, Enc.good H x) (h : ∀ (H' : Hp), (⟨some ⟨b, 0, none⟩, m, m, els⟩ : Slc α).Good H' → H.le H' → GT P n w0 H0 ops K HS LS ok fuel k ex env H' (L.eraseIdx i)) : GT P n w0 H0 ops K HS LS ok fuel k ex env H L := by
  subst hcs
  refine ⟨fun hc a w hf hs hok => ?_⟩
  obtain ⟨H', e1, e2, e3⟩ := (hs.perm (perm_of hi)).frzBlk hm hb hg
  exact (h H' e1 e2).out hc a w hf e3 hok
end
def qW : Question := ⟨[119, 46, 120], 1⟩
theorem qW_good (H : Hp) : Enc.good H qW := ⟨by show LenOk [119, 46, 120]; decide, by show I64 1; decide⟩
def adr (life : Int) : SignedC := ⟨⟨[119, 46, 120], 1, life, [⟨[], 7, 0⟩]⟩, []⟩
def stX : SignedC := ⟨⟨[120], 4, 5, [⟨[], 1, 20⟩]⟩, []⟩
def aW : AnswerC := ⟨1, [adr 9], []⟩
def aS : AnswerC := ⟨6, [stX], []⟩
def eW : EntryC := ⟨adr 9, [120], 19⟩
def eS : EntryC := ⟨stX, [120], 15⟩
def eD : EntryC := ⟨⟨⟨[119, 46, 120], 1, 20, []⟩, []⟩, [120], 30⟩
def e50 : EntryC := ⟨adr 9, [120], 50⟩
theorem hl1 : learnP [120] qW aW 10 (filterC [120] qW aW).1 [] = ([eW], 0) := by decide +kernel
theorem hl2 : learnP [120] qW aS 10 (filterC [120] qW aS).1 [] = ([eS, eD], 0) := by decide +kernel
theorem hge1 : getC [eW] qW 18 = (eW, true, 0) := by decide +kernel
theorem hge2 : getC [eS, eD] qW 29 = (eD, true, 0) := by decide +kernel
theorem hdu0 : dueC [] [] 0 (-1) 0 = ([], 1) := by decide +kernel
theorem has1 : askedC [⟨qW, 3⟩] qW = ([⟨qW, 4⟩], 0) := by decide +kernel
theorem hdu1 : dueC [e50] [⟨qW, 3⟩] 45 5 3 = ([qW], 0) := by decide +kernel
theorem hdu2 : dueC [e50] [⟨qW, 3⟩] 45 4 3 = ([], 0) := by decide +kernel
theorem hdu3 : dueC [e50] [⟨qW, 3⟩] 45 5 4 = ([], 0) := by decide +kernel
theorem hdu4 : dueC [e50] [⟨qW, 3⟩] 50 5 3 = ([], 0) := by decide +kernel
theorem c_question32 (H : Hp) (w : World) (hs : Sat H w) : Calls Tryz.prog 72 #[] w (Ret w (.agg (enc qW).toArray)) := by
  refine T.enter (vs := []) (H := H) Tryz.func72 rfl rfl rfl hs ?_
  repeat (any_goals (first | refine T.seq ?_ | refine T.region ?_ | refine TL.nil ?_ | refine N.next ?_ | refine N.inBlock ?_ | refine N.exit_same ?_ | refine N.exit_then ?_ | refine N.ret_then ?_ | refine N.ret_block ?_ | (apply N.exit_other; rfl) | refine T.ret ?_ | refine T.skip ?_ | refine T.exit ?_ | refine T.block ?_ | (apply T.cond_true; rfl) | (apply T.cond_false; rfl) | (apply T.test; rfl; (with_reducible (first | exact Is.ndec | exact Is.dec | exact Is.not | ((fail_if_success exact Is.litT); (fail_if_success exact Is.litF); exact Is.base))); intro _; rotate_left; intro _; rotate_right) | (apply TL.skip; rfl; rfl; rfl) | (apply TL.skip_none; rfl; rfl) | (apply TL.val; rfl; rfl; (apply V.build; rfl; rfl; rfl; rfl; rfl; rfl)) | (apply TL.x; rfl; rfl; (apply X.storeTo 0 (enc qW); rfl; rfl; rfl; rfl; rfl; rfl; rfl; rfl; rfl; rfl); intro _ _) | (apply TL.val; rfl; rfl; (first | exact vpure | exact vread)) | (apply TL.x; rfl; rfl; (first | exact xgrow | exact xput); intro _ _) | (apply TL.guard; rfl; rfl; rfl; (with_reducible (first | exact Is.ndec | exact Is.dec | exact Is.not | ((fail_if_success exact Is.litT); (fail_if_success exact Is.litF); exact Is.base))); intro _; rotate_left; intro _; rotate_right)))
  exact N.ret1 rfl (by (exact rvx)) fun w hst => ⟨rfl, hst.below⟩
theorem c_address32 (life : Int) (H : Hp) (w : World) (hs : Sat H w) (hl : I64 life) : Calls Tryz.prog 73 #[intV life] w (RetF w H (fun p : Hp × Signed => p.2.c = adr life ∧ Enc.good p.1 p.2) (fun p => .agg (enc p.2).toArray) (fun p => p.1)) := by
  refine T.enter (vs := [intV life]) (H := H) Tryz.func73 rfl rfl rfl hs ?_
  repeat (any_goals (first | refine T.seq ?_ | refine T.region ?_ | refine TL.nil ?_ | refine N.next ?_ | refine N.inBlock ?_ | refine N.exit_same ?_ | refine N.exit_then ?_ | refine N.ret_then ?_ | refine N.ret_block ?_ | (apply N.exit_other; rfl) | refine T.ret ?_ | refine T.skip ?_ | refine T.exit ?_ | refine T.block ?_ | (apply T.cond_true; rfl) | (apply T.cond_false; rfl) | (apply T.test; rfl; (with_reducible (first | exact Is.ndec | exact Is.dec | exact Is.not | ((fail_if_success exact Is.litT); (fail_if_success exact Is.litF); exact Is.base))); intro _; rotate_left; intro _; rotate_right) | (apply TL.skip; rfl; rfl; rfl) | (apply TL.skip_none; rfl; rfl) | (apply TL.val; rfl; rfl; (apply V.build; rfl; rfl; rfl; rfl; rfl; rfl)) | (apply TL.x; rfl; rfl; (apply X.buildSlice1 (d := 5) (cs := enc (⟨[], 7, 0⟩ : Datum)); rfl; rfl; rfl; rfl; rfl; rfl; rfl; rfl); intro b5 _; apply TL.frzBlk 0 (α := Datum) (els := [⟨[], 7, 0⟩]) (m := 1) rfl rfl rfl (by decide) (by intro x hx; simp only [List.mem_singleton] at hx; rw [hx]; exact ⟨show LenOk [] by decide, show I64 7 by decide, show I64 0 by decide⟩); intro H5 h5 hl5) | (apply TL.x; rfl; rfl; (apply X.storeTo 0 (enc (⟨⟨[119, 46, 120], 1, life, ⟨some ⟨b5, 0, none⟩, 1, 1, [⟨[], 7, 0⟩]⟩⟩, Slc.nil _⟩ : Signed)); rfl; rfl; rfl; rfl; rfl; rfl; rfl; rfl; rfl; rfl); intro _ _) | (apply TL.val; rfl; rfl; (first | exact vpure | exact vread)) | (apply TL.x; rfl; rfl; (first | exact xgrow | exact xput); intro _ _) | (apply TL.guard; rfl; rfl; rfl; (with_reducible (first | exact Is.ndec | exact Is.dec | exact Is.not | ((fail_if_success exact Is.litT); (fail_if_success exact Is.litF); exact Is.base))); intro _; rotate_left; intro _; rotate_right)))
  exact N.ret1 rfl (by (exact rvx)) fun w hst => ⟨(H5, ⟨⟨[119, 46, 120], 1, life, ⟨some ⟨b5, 0, none⟩, 1, 1, [⟨[], 7, 0⟩]⟩⟩, Slc.nil _⟩), ⟨rfl, ⟨⟨show LenOk [119, 46, 120] by decide, show I64 1 by decide, hl, h5⟩, Slc.nil_good⟩⟩, rfl, hst.fresh⟩
theorem c_DueV (c : Cache) (uses : Slc Use) (now early often : Int) {r : List Question × Int} (h : dueC c.c uses.els now early often = r) {H : Hp} {w : World} (hs : Sat H w) (hR : Rules H) (hg : Enc.good H c) (hu : uses.Good H) (hnow : I64 now) (hea : I64 early) (hof : I64 often) : Calls Tryz.prog 27 #[.agg (enc c).toArray, uses.v, intV now, intV early, intV often] w (QsR w H r) := by
  subst h; exact c_Due c uses now early often H w hs hR hg hu hnow hea hof
theorem c_SameQsV (a b : Slc Question) {v : Bool} (h : decide (a.els = b.els) = v) {H : Hp} {w : World} (hs : Sat H w) (ha : a.Good H) (hb : b.Good H) : Calls Tryz.prog 33 #[a.v, b.v] w (Ret w (.bool v)) := by
  subst h; exact c_SameQs a b H w hs ha hb
set_option maxHeartbeats 4000000 in
theorem c_due32 (now early often : Int) {r : List Question} {v : Bool} (h : dueC [e50] [⟨qW, 3⟩] now early often = (r, 0)) (hv : decide (r = [qW]) = v) {H : Hp} {w : World} (hs : Sat H w) (hR : Rules H) (hnow : I64 now) (hea : I64 early) (hof : I64 often) : Calls Tryz.prog 75 #[intV now, intV early, intV often] w (Ret w (.bool v)) := by
  refine T.enter (vs := [intV now, intV early, intV often]) (H := H) Tryz.func75 rfl rfl rfl hs ?_
  have hdv : ∀ (s : Signed), s.c = adr 9 → dueC [(⟨s, [120], 50⟩ : Entry).c] [⟨qW, 3⟩] now early often = (r, 0) := fun s h1 => by
    rw [← h]; unfold Entry.c; rw [h1]; rfl
  repeat (any_goals (first | refine T.seq ?_ | refine T.region ?_ | (apply T.regionD wide; rfl) | refine TL.nil ?_ | refine N.next ?_ | refine N.inBlock ?_ | refine N.exit_same ?_ | refine N.exit_then ?_ | refine N.ret_then ?_ | refine N.ret_block ?_ | (apply N.exit_other; rfl) | refine T.ret ?_ | refine T.skip ?_ | refine T.exit ?_ | refine T.block ?_ | (apply T.cond_true; rfl) | (apply T.cond_false; rfl) | (apply T.test; rfl; (with_reducible (first | exact Is.ndec | exact Is.dec | exact Is.not | ((fail_if_success exact Is.litT); (fail_if_success exact Is.litF); exact Is.base))); intro _; rotate_left; intro _; rotate_right) | (apply TL.skip; rfl; rfl; rfl) | (apply TL.skip_none; rfl; rfl) | (apply GT.skip; rfl; rfl; rfl; decide +kernel) | (apply TL.val; rfl; rfl; (apply V.build; rfl; rfl; rfl; rfl; rfl; rfl)) | (apply GT.pure; rfl; rfl; rfl; rfl; (apply V.build; rfl; rfl; rfl; rfl; rfl; rfl); decide +kernel) | (apply GT.read; rfl; rfl; rfl; rfl; (apply V.build; rfl; rfl; rfl; rfl; rfl; rfl); decide +kernel) | (apply TL.x; rfl; rfl; (apply X.callFE (f := 73) [intV 9] Tryz.call73; rfl; rfl; rfl; exact (fun _ hs => c_address32 9 _ _ hs.sat (by decide))); intro p hp; have hR := hR.mono hp.2; obtain ⟨⟨hp1, hp2⟩, hp3⟩ := hp) | (apply TL.x; rfl; rfl; (apply X.buildSlice1 (d := 12) (cs := enc (⟨p.2, [120], 50⟩ : Entry)); rfl; rfl; rfl; rfl; rfl; rfl; rfl; rfl); intro b12 _; apply TL.frzBlk 0 (α := Entry) (els := [⟨p.2, [120], 50⟩]) (m := 1) rfl rfl rfl (by decide) (by intro x hx; simp only [List.mem_singleton] at hx; rw [hx]; exact ⟨hp2, show LenOk [120] by decide, show I64 50 by decide⟩); intro H12 h12 hl12; have hR := hR.mono hl12) | (apply TL.x; rfl; rfl; (apply X.storeTo 0 [.slice (some ⟨b12, 0, none⟩) 1 1]; rfl; rfl; rfl; rfl; rfl; rfl; rfl; rfl; rfl; rfl); intro _ _) | (apply TL.callE (f := 72) [] Tryz.call72; rfl; rfl; rfl; rfl; (exact fun _ hs => c_question32 _ _ hs.sat)) | (apply GT.callE (f := 72) [] Tryz.call72; rfl; rfl; rfl; rfl; rfl; rfl; (exact fun _ hs => c_question32 _ _ hs.sat); decide +kernel) | (apply GS.grow; rfl; rfl; (apply X.buildSlice1 (d := 18) (cs := enc (⟨qW, 3⟩ : Use)); rfl; rfl; rfl; rfl; rfl; rfl; rfl; rfl); intro b18 _; apply GT.frzBlk32 0 (α := Use) (els := [⟨qW, 3⟩]) (m := 1) rfl rfl rfl (by decide) (by intro x hx; simp only [List.mem_singleton] at hx; rw [hx]; exact ⟨qW_good _, show I64 3 by decide⟩); intro H18 h18 hl18; have hR := hR.mono hl18; have h13 : Enc.good H18 (⟨⟨some ⟨b12, 0, none⟩, 1, 1, [⟨p.2, [120], 50⟩]⟩⟩ : Cache) := h12.mono hl18) | (apply GS.grow; rfl; rfl; (apply X.callFE (f := 27) [.agg (enc (⟨⟨some ⟨b12, 0, none⟩, 1, 1, [⟨p.2, [120], 50⟩]⟩⟩ : Cache)).toArray, .slice (some ⟨b18, 0, none⟩) 1 1, intV now, intV early, intV often] Tryz.call27; rfl; rfl; rfl; exact (fun _ hs => c_DueV (⟨⟨some ⟨b12, 0, none⟩, 1, 1, [⟨p.2, [120], 50⟩]⟩⟩ : Cache) ⟨some ⟨b18, 0, none⟩, 1, 1, [⟨qW, 3⟩]⟩ now early often (hdv p.2 hp1) hs.sat hR h13 h18 hnow hea hof)); intro g hg; have hgv : decide (g.2.els = [qW]) = v := (by rw [hg.1.1]; exact hv)) | (apply TL.x; rfl; rfl; (apply X.buildSlice1 (d := 30) (cs := enc qW); rfl; rfl; rfl; rfl; rfl; rfl; rfl; rfl); intro b30 _; apply TL.frzBlk 0 (α := Question) (els := [qW]) (m := 1) rfl rfl rfl (by decide) (by intro x hx; simp only [List.mem_singleton] at hx; rw [hx]; exact qW_good _); intro H30 h30 hl30) | (apply TL.callE (f := 33) [g.2.v, .slice (some ⟨b30, 0, none⟩) 1 1] Tryz.call33; rfl; rfl; rfl; rfl; (exact fun _ hs => c_SameQsV g.2 ⟨some ⟨b30, 0, none⟩, 1, 1, [qW]⟩ hgv hs.sat (hg.1.2.mono hl30) h30)) | (apply GT.callE (f := 33) [g.2.v, .slice (some ⟨b30, 0, none⟩) 1 1] Tryz.call33; rfl; rfl; rfl; rfl; rfl; rfl; (exact fun _ hs => c_SameQsV g.2 ⟨some ⟨b30, 0, none⟩, 1, 1, [qW]⟩ hgv hs.sat (hg.1.2.mono hl30) h30); decide +kernel) | (apply TL.val; rfl; rfl; (first | exact vpure | exact vread)) | (apply GT.pure; rfl; rfl; rfl; rfl; (first | exact vpure); decide +kernel) | (apply GT.read; rfl; rfl; rfl; rfl; (first | exact vpure | exact vread); decide +kernel) | (apply GT.done; decide +kernel; apply N.ofQ) | (apply GT.adv; rfl) | (apply TL.x; rfl; rfl; (first | exact xgrow | exact xput); intro _ _) | (apply GS.grow; rfl; rfl; (first | exact xgrow); intro _ _) | (apply GS.eff; rfl; decide +kernel; rfl; (first | exact xput); intro _ _) | (apply GT.pureAt 1; rfl; rfl; rfl; rfl; (first | exact vpure); decide +kernel) | (apply GT.readAt 1; rfl; rfl; rfl; rfl; (first | exact vpure | exact vread); decide +kernel) | (apply GT.pureAt 2; rfl; rfl; rfl; rfl; (first | exact vpure); decide +kernel) | (apply GT.readAt 2; rfl; rfl; rfl; rfl; (first | exact vpure | exact vread); decide +kernel) | (apply GT.pureAt 3; rfl; rfl; rfl; rfl; (first | exact vpure); decide +kernel) | (apply GT.readAt 3; rfl; rfl; rfl; rfl; (first | exact vpure | exact vread); decide +kernel) | (apply GT.pureAt 4; rfl; rfl; rfl; rfl; (first | exact vpure); decide +kernel) | (apply GT.readAt 4; rfl; rfl; rfl; rfl; (first | exact vpure | exact vread); decide +kernel) | (apply GT.pureAt 5; rfl; rfl; rfl; rfl; (first | exact vpure); decide +kernel) | (apply GT.readAt 5; rfl; rfl; rfl; rfl; (first | exact vpure | exact vread); decide +kernel) | (apply GT.pureAt 6; rfl; rfl; rfl; rfl; (first | exact vpure); decide +kernel) | (apply GT.readAt 6; rfl; rfl; rfl; rfl; (first | exact vpure | exact vread); decide +kernel) | (apply GT.pureAt 7; rfl; rfl; rfl; rfl; (first | exact vpure); decide +kernel) | (apply GT.readAt 7; rfl; rfl; rfl; rfl; (first | exact vpure | exact vread); decide +kernel) | (apply TL.guard; rfl; rfl; rfl; (with_reducible (first | exact Is.ndec | exact Is.dec | exact Is.not | ((fail_if_success exact Is.litT); (fail_if_success exact Is.litF); exact Is.base))); intro _; rotate_left; intro _; rotate_right) | (apply GT.guard; rfl; rfl; rfl; rfl; (with_reducible (first | exact Is.ndec | exact Is.dec | exact Is.not | ((fail_if_success exact Is.litT); (fail_if_success exact Is.litF); exact Is.base))); intro _; rotate_left; intro _; rotate_right) | (apply GT.fork1; decide +kernel) | (apply GT.fork2 1; decide +kernel) | (apply GT.fork2 2; decide +kernel) | (apply GT.fork2 3; decide +kernel) | (apply GT.fork2 4; decide +kernel) | (apply GT.fork2 5; decide +kernel) | (apply GT.fork2 6; decide +kernel) | (apply GT.fork2 7; decide +kernel) | (apply GT.fork2 8; decide +kernel) | (apply GT.fork2 9; decide +kernel) | (apply GT.fork2 10; decide +kernel) | (apply GT.fork2 11; decide +kernel) | (apply GT.fork2 12; decide +kernel) | (apply GT.fork2 13; decide +kernel) | (apply GT.fork2 14; decide +kernel) | (apply GT.fork2 15; decide +kernel) | (apply GT.fork2 16; decide +kernel) | (apply GT.fork2 17; decide +kernel) | (apply GT.fork2 18; decide +kernel) | (apply GT.fork2 19; decide +kernel) | (apply GT.fork2 20; decide +kernel) | (apply GT.fork2 21; decide +kernel) | (apply GT.fork2 22; decide +kernel) | (apply GT.fork2 23; decide +kernel)))
  all_goals (try (exfalso; exact absurd rfl (by assumption)))
  all_goals exact N.ret_bool rfl (by (exact rvx)) rfl
end Go.Proofs.YtogcofeencgipaaGreatDoor
