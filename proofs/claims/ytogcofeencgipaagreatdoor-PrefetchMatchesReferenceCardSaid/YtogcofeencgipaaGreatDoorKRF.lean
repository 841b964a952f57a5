/- Names out of their parts. -/
import Derived.Test.YtogcofeencgipaaGreatDoorKNT
import Derived.Test.YtogcofeencgipaaGreatDoorZTC
import Derived.Test.YtogcofeencgipaaGreatDoorZNA
import Derived.Test.YtogcofeencgipaaGreatDoorKQY
namespace Go.Proofs.YtogcofeencgipaaGreatDoor.nm
set_option linter.unusedVariables false
set_option linter.unusedSimpArgs false
open Go Go.RowKit
set_option maxRecDepth 20000
theorem lab_head {x : Bytes} (h : isLab x = true) : ∃ c r, x = c :: r ∧ c ≠ 42 := by
  have h : Word 45 12 x := of_decide_eq_true h
  obtain ⟨h1, _, h3⟩ := h
  cases x with
  | nil => simp at h1
  | cons c r =>
    refine ⟨c, r, rfl, ?_⟩
    rintro rfl
    have h4 := h3 0 (by simp)
    unfold WordAt at h4
    simp at h4
theorem lab_nodot {x : Bytes} (h : isLab x = true) : ∀ c ∈ x, c ≠ 46 := by
  have h : Word 45 12 x := of_decide_eq_true h
  rintro c hc rfl
  obtain ⟨k, hk, he⟩ := List.mem_iff_getElem.1 hc
  have h3 := h.2.2 k hk
  unfold WordAt at h3
  rw [List.getD_eq_getElem?_getD, List.getElem?_eq_getElem hk, he] at h3
  simp at h3
theorem splitDots_joinD : ∀ {l : List Bytes}, l ≠ [] → (∀ x ∈ l, ∀ c ∈ x, c ≠ 46) → splitDots (joinD l) = l
  | [], h, _ => absurd rfl h
  | [x], _, h => splitDots_nodot (h x (List.mem_singleton_self x))
  | x :: y :: r, _, h => by
    rw [joinD_cons (List.cons_ne_nil y r), splitDots_mid, splitDots_joinD (List.cons_ne_nil y r) (fun z hz => h z (List.mem_cons_of_mem _ hz)), splitDots_nodot (h x (List.mem_cons_self ..))]
    rfl
def glueC (l : List Bytes) : Bytes := if l = [] then [46] else joinD l
def labsOK (l : List Bytes) : Bool := (l.headD [97] = [42] || isLab (l.headD [97])) && l.tail.all isLab
def joinC (l : List Bytes) : Bytes × Int := if labsOK l && decide (l.length ≤ 8) && decide ((glueC l).length ≤ 60) then (glueC l, 0) else ([], 11)
theorem labs_nodot {l : List Bytes} (h : labsOK l = true) : ∀ x ∈ l, ∀ c ∈ x, c ≠ 46 := by
  cases l with
  | nil => intro x hx; cases hx
  | cons y r =>
    unfold labsOK at h
    simp only [List.headD_cons, List.tail_cons, Bool.and_eq_true, Bool.or_eq_true, decide_eq_true_eq] at h
    intro x hx
    rcases List.mem_cons.1 hx with rfl | hx
    · rcases h.1 with h | h
      · rw [of_decide_eq_true h]
        intro c hc; simp at hc; rw [hc]; decide
      · exact lab_nodot h
    · exact lab_nodot (List.all_eq_true.1 h.2 x hx)
theorem join_parts {l : List Bytes} (h : labsOK l = true) : parts (glueC l) = l := by
  unfold glueC
  by_cases hl : l = []
  · subst hl; rfl
  · rw [if_neg hl]
    have hs := splitDots_joinD hl (labs_nodot h)
    unfold parts
    by_cases hd : joinD l = [46]
    · rw [hd] at hs
      rw [← hs] at h
      exact absurd h (by decide)
    · rw [if_neg hd, hs]
theorem join_name {l : List Bytes} (h : (joinC l).2 = 0) : nameOK (joinC l).1 = true ∧ parts (joinC l).1 = l ∧ (joinC l).1 = glueC l := by
  unfold joinC at h ⊢
  split at h
  · rename_i hc
    rw [if_pos hc]
    simp only [Bool.and_eq_true, decide_eq_true_eq] at hc
    obtain ⟨⟨hc1, hc2⟩, hc3⟩ := hc
    refine ⟨?_, join_parts hc1, rfl⟩
    by_cases hl : l = []
    · subst hl; decide
    · simp only
      unfold glueC at hc3 ⊢
      rw [if_neg hl] at hc3 ⊢
      have hs := splitDots_joinD hl (labs_nodot hc1)
      unfold nameOK
      rw [hs]
      obtain ⟨x, r, rfl⟩ := List.exists_cons_of_ne_nil hl
      unfold labsOK at hc1
      simp only [List.headD_cons, List.tail_cons, Bool.and_eq_true, Bool.or_eq_true, decide_eq_true_eq] at hc1 ⊢
      exact .inr ⟨⟨⟨hc3, hc2⟩, hc1.1.symm⟩, hc1.2⟩
  · cases h
theorem joinD_snoc {t : List Bytes} (h : t ≠ []) (x : Bytes) : joinD (t ++ [x]) = (joinD t ++ [46]) ++ x := by
  rw [joinD_app h (List.cons_ne_nil x []), List.append_assoc]
  rfl
theorem joinD_bound : ∀ {l : List Bytes}, (∀ x ∈ l, x.length ≤ 12) → (joinD l).length ≤ l.length * 13
  | [], _ => by simp [joinD]
  | [x], h => by
    have := h x (List.mem_singleton_self x)
    simp [joinD]
    omega
  | x :: y :: r, h => by
    have h1 := h x (List.mem_cons_self ..)
    have h2 := joinD_bound (l := y :: r) fun z hz => h z (List.mem_cons_of_mem _ hz)
    rw [joinD_cons (List.cons_ne_nil y r)]
    simp only [List.length_append, List.length_cons] at h2 ⊢
    omega
theorem c_Glue (s : Slc Bytes) (H : Hp) (w : World) (hs : Sat H w) (hg : s.Good H) (hm : s.len ≤ 1000) (hl : ∀ x ∈ s.els, x.length ≤ 12) : Calls Tryz.prog 235 #[s.v] w (Ret w (strV (glueC s.els))) := by
  have hlen := hg.len
  refine T.enter (vs := [s.v]) (H := H) Tryz.func235 rfl rfl rfl hs ?_
  by_cases h0 : s.len = 0
  · have he : s.els = [] := List.eq_nil_of_length_eq_zero (by omega)
    repeat (any_goals (first | refine T.seq ?_ | refine T.region ?_ | refine TL.nil ?_ | refine N.next ?_ | refine N.inBlock ?_ | refine N.exit_same ?_ | refine N.exit_then ?_ | refine N.ret_then ?_ | refine N.ret_block ?_ | (apply N.exit_other; rfl) | refine T.ret ?_ | refine T.skip ?_ | refine T.exit ?_ | refine T.block ?_ | (apply T.cond_true; rfl) | (apply T.cond_false; rfl) | (apply T.test; rfl; (exact visX); intro _; rotate_left; intro _; rotate_right) | (apply TL.skip; rfl; rfl; rfl) | (apply TL.skip_none; rfl; rfl) | (apply TL.val; rfl; rfl; (first | exact vpure | exact vread)) | (apply TL.x; rfl; rfl; (first | exact xgrow | exact xput); intro _ _) | (apply TL.guard; rfl; rfl; rfl; (exact visX); intro _; rotate_left; intro _; rotate_right)))
    all_goals (try (exfalso; omega))
    refine N.ret_val rfl (by (exact rvx)) ?_
    rw [he]; rfl
  · have hpos : 0 < s.els.length := by omega
    have ht1 : joinD (s.els.take 1) = s.els[0]'hpos := by
      rw [show s.els.take 1 = [s.els[0]'hpos] by rw [List.take_succ_eq_append_getElem hpos]; rfl]
      rfl
    repeat (any_goals (first | refine T.seq ?_ | refine T.region ?_ | refine TL.nil ?_ | refine N.next ?_ | refine N.inBlock ?_ | refine N.exit_same ?_ | refine N.exit_then ?_ | refine N.ret_then ?_ | refine N.ret_block ?_ | (apply N.exit_other; rfl) | refine T.ret ?_ | refine T.skip ?_ | refine T.exit ?_ | refine T.block ?_ | (apply T.cond_true; rfl) | (apply T.cond_false; rfl) | (apply T.test; rfl; (exact visX); intro _; rotate_left; intro _; rotate_right) | (apply TL.skip; rfl; rfl; rfl) | (apply TL.skip_none; rfl; rfl) | (apply TL.val; rfl; rfl; (apply V.elem (j := 0); (iterate 6 rfl); omega; exact hg.at_ (by omega))) | (apply TL.val; rfl; rfl; (first | exact vpure | exact vread)) | (apply TL.x; rfl; rfl; (first | exact xgrow | exact xput); intro _ _) | (apply TL.guard; rfl; rfl; rfl; (exact visX); intro _; rotate_left; intro _; rotate_right)))
    all_goals (try (exfalso; omega))
    refine T.loop (G := Nat) (fun k => [(0, s.v), (3, strV (joinD (s.els.take k))), (4, intV k)]) (fun _ => H) (fun _ => []) (fun k => 1 ≤ k ∧ k ≤ s.len) (fun k => s.len - k) 1 ⟨Nat.le_refl _, by omega⟩ (by rw [ht1]; (repeat (first | exact True.intro | refine ⟨rfl, ?_⟩ | refine Sub.int rfl (by omega) ?_))) rfl (List.Sublist.refl _) ?_
    rintro k ⟨hk1, hk⟩
    by_cases hlt : k < s.len
    · have hkl : k < s.els.length := by omega
      have htk : (joinD (s.els.take k)).length ≤ k * 13 := by
        have := joinD_bound (l := s.els.take k) fun x hx => hl x (List.mem_of_mem_take hx)
        rw [List.length_take, Nat.min_eq_left (by omega)] at this
        exact this
      have hx := hl _ (List.getElem_mem hkl)
      have hup : joinD (s.els.take (k + 1)) = (joinD (s.els.take k) ++ [46]) ++ s.els[k]'hkl := by
        rw [List.take_succ_eq_append_getElem hkl, joinD_snoc]
        intro h
        have := congrArg List.length h
        rw [List.length_take, List.length_nil] at this
        omega
      repeat (any_goals (first | refine T.seq ?_ | refine T.region ?_ | refine TL.nil ?_ | refine N.next ?_ | refine N.inBlock ?_ | refine N.exit_same ?_ | refine N.exit_then ?_ | refine N.ret_then ?_ | refine N.ret_block ?_ | (apply N.exit_other; rfl) | refine T.ret ?_ | refine T.skip ?_ | refine T.exit ?_ | refine T.block ?_ | (apply T.cond_true; rfl) | (apply T.cond_false; rfl) | (apply T.test; rfl; (exact visX); intro _; rotate_left; intro _; rotate_right) | (apply TL.skip; rfl; rfl; rfl) | (apply TL.skip_none; rfl; rfl) | (apply TL.val; rfl; rfl; (apply V.sadd; rfl; rfl; (simp only [List.length_append, List.length_cons, List.length_nil]; omega))) | (apply TL.val; rfl; rfl; (first | exact vpure | exact vread)) | (apply TL.x; rfl; rfl; (first | exact xgrow | exact xput); intro _ _) | (apply TL.guard; rfl; rfl; rfl; (exact visX); intro _; rotate_left; intro _; rotate_right)))
      all_goals (try (exfalso; omega))
      refine N.round (k + 1) ⟨by omega, by omega⟩ (by show s.len - (k + 1) < s.len - k; omega) (by rw [hup]; (repeat (first | exact True.intro | refine ⟨rfl, ?_⟩ | refine Sub.int rfl (by omega) ?_))) rfl (List.Sublist.refl _)
    · have hke : k = s.els.length := by omega
      subst hke
      repeat (any_goals (first | refine T.seq ?_ | refine T.region ?_ | refine TL.nil ?_ | refine N.next ?_ | refine N.inBlock ?_ | refine N.exit_same ?_ | refine N.exit_then ?_ | refine N.ret_then ?_ | refine N.ret_block ?_ | (apply N.exit_other; rfl) | refine T.ret ?_ | refine T.skip ?_ | refine T.exit ?_ | refine T.block ?_ | (apply T.cond_true; rfl) | (apply T.cond_false; rfl) | (apply T.test; rfl; (exact visX); intro _; rotate_left; intro _; rotate_right) | (apply TL.skip; rfl; rfl; rfl) | (apply TL.skip_none; rfl; rfl) | (apply TL.val; rfl; rfl; (first | exact vpure | exact vread)) | (apply TL.x; rfl; rfl; (first | exact xgrow | exact xput); intro _ _) | (apply TL.guard; rfl; rfl; rfl; (exact visX); intro _; rotate_left; intro _; rotate_right)))
      all_goals (try (exfalso; omega))
      refine N.ret_val rfl (by (exact rvx)) ?_
      rw [List.take_length]
      unfold glueC
      rw [if_neg (fun h => by rw [h] at hpos; simp at hpos)]
theorem lab_len {x : Bytes} (h : isLab x = true) : x.length ≤ 12 := (of_decide_eq_true (p := Word 45 12 x) h).2.1
theorem parts_labs {s : Bytes} (h : nameOK s = true) : labsOK (parts s) = true ∧ (parts s).length ≤ 8 := by
  unfold parts
  by_cases hr : s = [46]
  · rw [if_pos hr]; exact ⟨by decide, by simp⟩
  · rw [if_neg hr]
    unfold nameOK at h
    rw [decide_eq_false hr] at h
    simp only [Bool.false_or, Bool.and_eq_true, decide_eq_true_eq, Bool.or_eq_true] at h
    refine ⟨?_, h.1.1.2⟩
    unfold labsOK
    obtain ⟨x, r, hx⟩ := List.exists_cons_of_ne_nil (splitDots_ne s)
    rw [hx] at h ⊢
    simp only [List.headD_cons, List.tail_cons, Bool.and_eq_true, Bool.or_eq_true, decide_eq_true_eq] at h ⊢
    exact ⟨h.1.2.symm.imp_left (fun h => decide_eq_true h), h.2⟩
theorem labs_tail {x : Bytes} {l : List Bytes} (h : labsOK (x :: l) = true) : labsOK l = true := by
  unfold labsOK at h ⊢
  simp only [List.headD_cons, List.tail_cons, Bool.and_eq_true] at h
  cases l with
  | nil => decide
  | cons y r =>
    have h2 := h.2
    rw [List.all_cons, Bool.and_eq_true] at h2
    simp only [List.headD_cons, List.tail_cons, h2.1, h2.2, Bool.or_true, Bool.and_self]
theorem glue_split {s : Bytes} : glueC (parts s) = s := by
  unfold glueC parts
  by_cases hr : s = [46]
  · rw [if_pos hr, if_pos rfl, hr]
  · rw [if_neg hr, if_neg (splitDots_ne s), join_split]
theorem joinD_len : ∀ {x : Bytes} {l : List Bytes}, (joinD l).length ≤ (joinD (x :: l)).length
  | x, [] => by simp [joinD]
  | x, y :: r => by rw [joinD_cons (List.cons_ne_nil y r)]; simp; omega
theorem glue_name {l : List Bytes} (h : labsOK l = true) (h8 : l.length ≤ 8) (h60 : (glueC l).length ≤ 60) : nameOK (glueC l) = true := by
  have hj : joinC l = (glueC l, 0) := by unfold joinC; rw [if_pos]; simp [h, h8, h60]
  have := (join_name (l := l) (by rw [hj])).1
  rwa [hj] at this
theorem glue_len {x : Bytes} {l : List Bytes} (h : labsOK (x :: l) = true) : (glueC l).length ≤ (glueC (x :: l)).length := by
  unfold glueC
  rw [if_neg (List.cons_ne_nil x l)]
  by_cases hl : l = []
  · rw [if_pos hl]
    have h1 : labsOK (x :: l) = true := h
    subst hl
    unfold labsOK at h1
    simp only [List.headD_cons, List.tail_cons, Bool.and_eq_true, Bool.or_eq_true, decide_eq_true_eq] at h1
    rcases h1.1 with h1 | h1
    · rw [of_decide_eq_true h1]; decide
    · obtain ⟨c, r, rfl, _⟩ := lab_head h1
      simp [joinD]
  · rw [if_neg hl]; exact joinD_len
theorem glue_le {s : Bytes} (h : nameOK s = true) : (glueC (parts s)).length ≤ 60 := by rw [glue_split]; exact nameOK_le h
end Go.Proofs.YtogcofeencgipaaGreatDoor.nm
namespace Go.Proofs.YtogcofeencgipaaGreatDoor
set_option linter.unusedVariables false
set_option linter.unusedSimpArgs false
open Go Go.RowKit
open Enc (enc)
set_option maxRecDepth 20000
theorem sigs_til {l : List Sig} {apex : Bytes} (h : sigsForm l apex = true) : ∀ g ∈ l, 0 ≤ g.til ∧ g.til ≤ 20000000 := fun g hg => by
  unfold sigsForm at h
  simp only [Bool.and_eq_true, List.all_eq_true] at h
  have h1 := h.1.2 g hg
  unfold sigForm at h1
  simp only [Bool.and_eq_true, decide_eq_true_eq] at h1
  omega
set_option maxHeartbeats 8000000 in
theorem c_Put22 (c : Cache) (s : Signed) (zone : Bytes) (now : Int) (H : Hp) (w : World) (hs : Sat H w) (hg : Enc.good H c) (hsg : Enc.good H s) (hz : LenOk zone) : Calls Tryz.prog 96 #[.agg (enc c).toArray, .agg (enc s).toArray, strV zone, intV now] w (Caches w H (putC c.c s.c zone now)) := by
  refine T.enter (vs := [.agg (enc c).toArray, .agg (enc s).toArray, strV zone, intV now]) (H := H) Tryz.func96 rfl rfl rfl hs ?_
  obtain ⟨v1, h1⟩ : ∃ v, setOK s.set.c = v := ⟨_, rfl⟩
  obtain ⟨v2, h2⟩ : ∃ v, cacheOK c.c = v := ⟨_, rfl⟩
  obtain ⟨v3, h3⟩ : ∃ v, inZone s.set.name zone = v := ⟨_, rfl⟩
  obtain ⟨v4, h4⟩ : ∃ v, isT now = v := ⟨_, rfl⟩
  by_cases hv : v1 = true ∧ v2 = true ∧ v3 = true ∧ v4 = true
  · obtain ⟨rfl, rfl, rfl, rfl⟩ := hv
    have hT : 0 ≤ now ∧ now ≤ 20000000 := of_decide_eq_true h4
    have hm := cache_len hg h2
    have hy := put_yes (l := c.c) (s := s.c) h2 h1 h3 hT
    have hlf := (setOK_life h1).1
    cases h5 : sigsForm s.sigs.els zone with
    | true =>
      have hp : putC c.c s.c zone now = learnR c.c (putE ⟨s, zone, 0⟩ now) now := by
        rw [hy, show sigsForm s.c.sigs zone = true from h5, learnR_eq (by rw [cacheOK_iff] at h2; exact h2.1)]; rfl
      rw [hp]
      repeat (any_goals (first | refine T.seq ?_ | refine T.region ?_ | refine TL.nil ?_ | refine N.next ?_ | refine N.inBlock ?_ | refine N.exit_same ?_ | refine N.exit_then ?_ | refine N.ret_then ?_ | refine N.ret_block ?_ | (apply N.exit_other; rfl) | refine T.ret ?_ | refine T.skip ?_ | refine T.exit ?_ | refine T.block ?_ | (apply T.cond_true; rfl) | (apply T.cond_false; rfl) | (apply T.test; rfl; (exact visX); intro _; rotate_left; intro _; rotate_right) | (apply TL.skip; rfl; rfl; rfl) | (apply TL.skip_none; rfl; rfl) | (apply TL.x; rfl; rfl; (apply X.box (d := 4); rfl; rfl; rfl); intro b4 _) | (apply TL.x; rfl; rfl; (apply X.box (d := 5); rfl; rfl; rfl); intro b5 _) | (apply TL.x; rfl; rfl; (apply X.alloc (d := 8); rfl; rfl; rfl); intro b8 _) | (apply TL.callE (f := 45) [.agg (enc s.set).toArray] Tryz.call45; rfl; rfl; rfl; rfl; (exact fun _ hs => h1 ▸ c_Valid02 s.set _ _ hs.sat hsg.1)) | (apply TL.callE (f := 80) [.agg (enc c).toArray] Tryz.call80; rfl; rfl; rfl; rfl; (exact fun _ hs => h2 ▸ c_Valid22 c _ _ hs.sat hg)) | (apply TL.callE (f := 41) [strV s.set.name, strV zone] Tryz.call41; rfl; rfl; rfl; rfl; (exact fun _ hs => h3 ▸ c_Inside s.set.name zone _ _ hs.sat hsg.1.1 hz)) | (apply TL.callE (f := 81) [intV now] Tryz.call81; rfl; rfl; rfl; rfl; (exact fun _ hs => c_Time22B h4 hs.sat)) | (apply TL.callE (f := 42) [s.sigs.v, strV zone] Tryz.call42; rfl; rfl; rfl; rfl; (exact fun _ hs => h5 ▸ c_Sigs06 s.sigs zone _ _ hs.sat hsg.2 hz)) | (apply TL.val; rfl; rfl; (apply V.build; (iterate 6 rfl))) | (apply TL.x; rfl; rfl; (apply X.callFE (f := 157) [.agg (enc c).toArray, .agg (enc (⟨s, zone, 0⟩ : Entry)).toArray, intV now] Tryz.call157; rfl; rfl; rfl; exact (fun _ hs => c_Learn22 c ⟨s, zone, 0⟩ now _ _ hs.sat hg ⟨hsg, hz, by show I64 0; decide⟩ hm hT hlf (sigs_til h5))); intro p hp) | (apply TL.x; rfl; rfl; (apply X.storeTo 0 (enc p.2); (iterate 10 rfl)); intro _ _) | (apply TL.val; rfl; rfl; (first | exact vpure | exact vread)) | (apply TL.x; rfl; rfl; (first | exact xgrow | exact xput); intro _ _) | (apply TL.guard; rfl; rfl; rfl; (exact visX); intro _; rotate_left; intro _; rotate_right)))
      all_goals (try contradiction)
      exact N.ret2 rfl (by (exact rvx)) (by (exact rvx)) fun w hst => ⟨p, hp.1, rfl, hst.fresh⟩
    | false =>
      have hp : putC c.c s.c zone now = ([], 30) := by
        rw [hy, show sigsForm s.c.sigs zone = false from h5]; rfl
      repeat (any_goals (first | refine T.seq ?_ | refine T.region ?_ | refine TL.nil ?_ | refine N.next ?_ | refine N.inBlock ?_ | refine N.exit_same ?_ | refine N.exit_then ?_ | refine N.ret_then ?_ | refine N.ret_block ?_ | (apply N.exit_other; rfl) | refine T.ret ?_ | refine T.skip ?_ | refine T.exit ?_ | refine T.block ?_ | (apply T.cond_true; rfl) | (apply T.cond_false; rfl) | (apply T.test; rfl; (exact visX); intro _; rotate_left; intro _; rotate_right) | (apply TL.skip; rfl; rfl; rfl) | (apply TL.skip_none; rfl; rfl) | (apply TL.x; rfl; rfl; (apply X.box (d := 4); rfl; rfl; rfl); intro b4 _) | (apply TL.x; rfl; rfl; (apply X.box (d := 5); rfl; rfl; rfl); intro b5 _) | (apply TL.x; rfl; rfl; (apply X.alloc (d := 8); rfl; rfl; rfl); intro b8 _) | (apply TL.callE (f := 45) [.agg (enc s.set).toArray] Tryz.call45; rfl; rfl; rfl; rfl; (exact fun _ hs => h1 ▸ c_Valid02 s.set _ _ hs.sat hsg.1)) | (apply TL.callE (f := 80) [.agg (enc c).toArray] Tryz.call80; rfl; rfl; rfl; rfl; (exact fun _ hs => h2 ▸ c_Valid22 c _ _ hs.sat hg)) | (apply TL.callE (f := 41) [strV s.set.name, strV zone] Tryz.call41; rfl; rfl; rfl; rfl; (exact fun _ hs => h3 ▸ c_Inside s.set.name zone _ _ hs.sat hsg.1.1 hz)) | (apply TL.callE (f := 81) [intV now] Tryz.call81; rfl; rfl; rfl; rfl; (exact fun _ hs => c_Time22B h4 hs.sat)) | (apply TL.callE (f := 42) [s.sigs.v, strV zone] Tryz.call42; rfl; rfl; rfl; rfl; (exact fun _ hs => h5 ▸ c_Sigs06 s.sigs zone _ _ hs.sat hsg.2 hz)) | (apply TL.val; rfl; rfl; (apply V.build; (iterate 6 rfl))) | (apply TL.val; rfl; rfl; (first | exact vpure | exact vread)) | (apply TL.x; rfl; rfl; (first | exact xgrow | exact xput); intro _ _) | (apply TL.guard; rfl; rfl; rfl; (exact visX); intro _; rotate_left; intro _; rotate_right)))
      all_goals (try contradiction)
      exact N.ret2 rfl (by (exact rvx)) (by (exact rvx)) fun w1 hst => zero_end hst hp
  · have hp : putC c.c s.c zone now = ([], 1) := by
      unfold putC
      rw [show setOK s.c.set = v1 from h1, h2, show inZone s.c.set.name zone = v3 from h3, h4, if_pos]
      cases v1 <;> cases v2 <;> cases v3 <;> cases v4 <;> simp_all
    repeat (any_goals (first | refine T.seq ?_ | refine T.region ?_ | refine TL.nil ?_ | refine N.next ?_ | refine N.inBlock ?_ | refine N.exit_same ?_ | refine N.exit_then ?_ | refine N.ret_then ?_ | refine N.ret_block ?_ | (apply N.exit_other; rfl) | refine T.ret ?_ | refine T.skip ?_ | refine T.exit ?_ | refine T.block ?_ | (apply T.cond_true; rfl) | (apply T.cond_false; rfl) | (apply T.test; rfl; (exact visX); intro _; rotate_left; intro _; rotate_right) | (apply TL.skip; rfl; rfl; rfl) | (apply TL.skip_none; rfl; rfl) | (apply TL.x; rfl; rfl; (apply X.box (d := 4); rfl; rfl; rfl); intro b4 _) | (apply TL.x; rfl; rfl; (apply X.box (d := 5); rfl; rfl; rfl); intro b5 _) | (apply TL.x; rfl; rfl; (apply X.alloc (d := 8); rfl; rfl; rfl); intro b8 _) | (apply TL.callE (f := 45) [.agg (enc s.set).toArray] Tryz.call45; rfl; rfl; rfl; rfl; (exact fun _ hs => h1 ▸ c_Valid02 s.set _ _ hs.sat hsg.1)) | (apply TL.callE (f := 80) [.agg (enc c).toArray] Tryz.call80; rfl; rfl; rfl; rfl; (exact fun _ hs => h2 ▸ c_Valid22 c _ _ hs.sat hg)) | (apply TL.callE (f := 41) [strV s.set.name, strV zone] Tryz.call41; rfl; rfl; rfl; rfl; (exact fun _ hs => h3 ▸ c_Inside s.set.name zone _ _ hs.sat hsg.1.1 hz)) | (apply TL.callE (f := 81) [intV now] Tryz.call81; rfl; rfl; rfl; rfl; (exact fun _ hs => c_Time22B h4 hs.sat)) | (apply TL.val; rfl; rfl; (apply V.build; (iterate 6 rfl))) | (apply TL.val; rfl; rfl; (first | exact vpure | exact vread)) | (apply TL.x; rfl; rfl; (first | exact xgrow | exact xput); intro _ _) | (apply TL.guard; rfl; rfl; rfl; (exact visX); intro _; rotate_left; intro _; rotate_right)))
    all_goals first
      | (refine N.ret2 rfl (by (exact rvx)) (by (exact rvx)) fun w1 hst => ?_
         exact zero_end hst hp)
      | (exfalso; exact hv ⟨by assumption, by assumption, by assumption, by assumption⟩)
      | (exfalso; simp_all; done)
theorem deny_yes22 {c : List EntryC} {q : Question} {zone : Bytes} {life now : Int} (h1 : cacheOK c = true) (h2 : questionOK q = true) (h3 : inZone q.name zone = true) (h4 : 0 ≤ life ∧ life ≤ 100000) (h5 : isT now = true) : denyC c q zone life now = learnC c ⟨⟨⟨q.name, q.typ, life, []⟩, []⟩, zone, now + maxI life 1⟩ now := by
  unfold denyC
  rw [h1, h2, h3, decide_eq_true h4, h5]; rfl
set_option maxHeartbeats 8000000 in
theorem c_Deny22 (c : Cache) (q : Question) (zone : Bytes) (life now : Int) (H : Hp) (w : World) (hs : Sat H w) (hg : Enc.good H c) (hq : Enc.good H q) (hz : LenOk zone) (hlf : I64 life) : Calls Tryz.prog 97 #[.agg (enc c).toArray, .agg (enc q).toArray, strV zone, intV life, intV now] w (Caches w H (denyC c.c q zone life now)) := by
  refine T.enter (vs := [.agg (enc c).toArray, .agg (enc q).toArray, strV zone, intV life, intV now]) (H := H) Tryz.func97 rfl rfl rfl hs ?_
  obtain ⟨v1, h1⟩ : ∃ v, questionOK q = v := ⟨_, rfl⟩
  obtain ⟨v2, h2⟩ : ∃ v, cacheOK c.c = v := ⟨_, rfl⟩
  obtain ⟨v3, h3⟩ : ∃ v, inZone q.name zone = v := ⟨_, rfl⟩
  obtain ⟨v4, h4⟩ : ∃ v, isT now = v := ⟨_, rfl⟩
  by_cases hv : v1 = true ∧ v2 = true ∧ v3 = true ∧ v4 = true ∧ (0 ≤ life ∧ life ≤ 100000)
  · obtain ⟨rfl, rfl, rfl, rfl, hl⟩ := hv
    have hT : 0 ≤ now ∧ now ≤ 20000000 := of_decide_eq_true h4
    have hm := cache_len hg h2
    have hp : denyC c.c q zone life now = learnR c.c (putE ⟨⟨⟨q.name, q.typ, life, Slc.nil _⟩, Slc.nil _⟩, zone, 0⟩ now) now := by
      rw [deny_yes22 h2 h1 h3 hl h4, learnR_eq (by rw [cacheOK_iff] at h2; exact h2.1)]; rfl
    rw [hp]
    have hE : Enc.good H (⟨⟨⟨q.name, q.typ, life, Slc.nil _⟩, Slc.nil _⟩, zone, 0⟩ : Entry) := ⟨⟨⟨hq.1, hq.2, hlf, Slc.nil_good⟩, Slc.nil_good⟩, hz, by show I64 0; decide⟩
    repeat (any_goals (first | refine T.seq ?_ | refine T.region ?_ | refine TL.nil ?_ | refine N.next ?_ | refine N.inBlock ?_ | refine N.exit_same ?_ | refine N.exit_then ?_ | refine N.ret_then ?_ | refine N.ret_block ?_ | (apply N.exit_other; rfl) | refine T.ret ?_ | refine T.skip ?_ | refine T.exit ?_ | refine T.block ?_ | (apply T.cond_true; rfl) | (apply T.cond_false; rfl) | (apply T.test; rfl; (exact visX); intro _; rotate_left; intro _; rotate_right) | (apply TL.skip; rfl; rfl; rfl) | (apply TL.skip_none; rfl; rfl) | (apply TL.x; rfl; rfl; (apply X.box (d := 5); rfl; rfl; rfl); intro b5 _) | (apply TL.x; rfl; rfl; (apply X.box (d := 6); rfl; rfl; rfl); intro b6 _) | (apply TL.x; rfl; rfl; (apply X.alloc (d := 10); rfl; rfl; rfl); intro b10 _) | (apply TL.callE (f := 39) [.agg (enc q).toArray] Tryz.call39; rfl; rfl; rfl; rfl; (exact fun _ hs => h1 ▸ c_Question06 q _ _ hs.sat hq)) | (apply TL.callE (f := 80) [.agg (enc c).toArray] Tryz.call80; rfl; rfl; rfl; rfl; (exact fun _ hs => h2 ▸ c_Valid22 c _ _ hs.sat hg)) | (apply TL.callE (f := 41) [strV q.name, strV zone] Tryz.call41; rfl; rfl; rfl; rfl; (exact fun _ hs => h3 ▸ c_Inside q.name zone _ _ hs.sat hq.1 hz)) | (apply TL.callE (f := 81) [intV now] Tryz.call81; rfl; rfl; rfl; rfl; (exact fun _ hs => c_Time22B h4 hs.sat)) | (apply TL.val; rfl; rfl; (apply V.build; (iterate 6 rfl))) | (apply TL.x; rfl; rfl; (apply X.callFE (f := 157) [.agg (enc c).toArray, .agg (enc (⟨⟨⟨q.name, q.typ, life, Slc.nil _⟩, Slc.nil _⟩, zone, 0⟩ : Entry)).toArray, intV now] Tryz.call157; rfl; rfl; rfl; exact (fun _ hs => c_Learn22 c ⟨⟨⟨q.name, q.typ, life, Slc.nil _⟩, Slc.nil _⟩, zone, 0⟩ now _ _ hs.sat hg hE hm hT hl (fun _ h => by cases h))); intro p hp) | (apply TL.x; rfl; rfl; (apply X.storeTo 0 (enc p.2); (iterate 10 rfl)); intro _ _) | (apply TL.val; rfl; rfl; (first | exact vpure | exact vread)) | (apply TL.x; rfl; rfl; (first | exact xgrow | exact xput); intro _ _) | (apply TL.guard; rfl; rfl; rfl; (exact visX); intro _; rotate_left; intro _; rotate_right)))
    all_goals (try contradiction)
    all_goals (try (exfalso; omega))
    exact N.ret2 rfl (by (exact rvx)) (by (exact rvx)) fun w hst => ⟨p, hp.1, rfl, hst.fresh⟩
  · have hp : denyC c.c q zone life now = ([], 1) := by
      unfold denyC
      rw [h1, h2, h3, h4, if_pos]
      by_cases hl : 0 ≤ life ∧ life ≤ 100000
      · rw [decide_eq_true hl]; cases v1 <;> cases v2 <;> cases v3 <;> cases v4 <;> simp_all
      · rw [decide_eq_false hl]; cases v1 <;> cases v2 <;> cases v3 <;> cases v4 <;> simp_all
    repeat (any_goals (first | refine T.seq ?_ | refine T.region ?_ | refine TL.nil ?_ | refine N.next ?_ | refine N.inBlock ?_ | refine N.exit_same ?_ | refine N.exit_then ?_ | refine N.ret_then ?_ | refine N.ret_block ?_ | (apply N.exit_other; rfl) | refine T.ret ?_ | refine T.skip ?_ | refine T.exit ?_ | refine T.block ?_ | (apply T.cond_true; rfl) | (apply T.cond_false; rfl) | (apply T.test; rfl; (exact visX); intro _; rotate_left; intro _; rotate_right) | (apply TL.skip; rfl; rfl; rfl) | (apply TL.skip_none; rfl; rfl) | (apply TL.x; rfl; rfl; (apply X.box (d := 5); rfl; rfl; rfl); intro b5 _) | (apply TL.x; rfl; rfl; (apply X.box (d := 6); rfl; rfl; rfl); intro b6 _) | (apply TL.x; rfl; rfl; (apply X.alloc (d := 10); rfl; rfl; rfl); intro b10 _) | (apply TL.callE (f := 39) [.agg (enc q).toArray] Tryz.call39; rfl; rfl; rfl; rfl; (exact fun _ hs => h1 ▸ c_Question06 q _ _ hs.sat hq)) | (apply TL.callE (f := 80) [.agg (enc c).toArray] Tryz.call80; rfl; rfl; rfl; rfl; (exact fun _ hs => h2 ▸ c_Valid22 c _ _ hs.sat hg)) | (apply TL.callE (f := 41) [strV q.name, strV zone] Tryz.call41; rfl; rfl; rfl; rfl; (exact fun _ hs => h3 ▸ c_Inside q.name zone _ _ hs.sat hq.1 hz)) | (apply TL.callE (f := 81) [intV now] Tryz.call81; rfl; rfl; rfl; rfl; (exact fun _ hs => c_Time22B h4 hs.sat)) | (apply TL.val; rfl; rfl; (apply V.build; (iterate 6 rfl))) | (apply TL.val; rfl; rfl; (first | exact vpure | exact vread)) | (apply TL.x; rfl; rfl; (first | exact xgrow | exact xput); intro _ _) | (apply TL.guard; rfl; rfl; rfl; (exact visX); intro _; rotate_left; intro _; rotate_right)))
    all_goals first
      | (refine N.ret2 rfl (by (exact rvx)) (by (exact rvx)) fun w1 hst => ?_
         exact zero_end hst hp)
      | (exfalso; exact hv ⟨by assumption, by assumption, by assumption, by assumption, by omega, by omega⟩)
      | (exfalso; simp_all; done)
theorem labs_short {l : List Bytes} (h : nameOK (nm.glueC l) = true) (hl : nm.labsOK l = true) : ∀ y ∈ l, y.length ≤ 12 := fun y hy => by
  unfold nm.labsOK at hl
  simp only [Bool.and_eq_true, Bool.or_eq_true, decide_eq_true_eq, List.all_eq_true] at hl
  cases l with
  | nil => cases hy
  | cons x r =>
    rcases List.mem_cons.1 hy with rfl | hy
    · rcases hl.1 with h1 | h1
      · have h1 : y = [42] := h1
        rw [h1]; decide
      · exact nm.lab_len h1
    · exact nm.lab_len (hl.2 y hy)
theorem c_Parent01 {x : Bytes} {m : List Bytes} (h : nm.labsOK (x :: m) = true) (hn : nameOK (nm.glueC (x :: m)) = true) {H : Hp} {w : World} (hs : Sat H w) : Calls Tryz.prog 224 #[strV (nm.glueC (x :: m))] w (Ret w (.tuple #[strV (nm.glueC m), intV 0])) := by
  have hl : LenOk (nm.glueC (x :: m)) := Nat.le_trans (nameOK_le hn) (by decide)
  have h60 := nameOK_le hn
  have hps := nm.join_parts h
  have hsh := labs_short hn h
  have hm8 : (x :: m).length ≤ 8 := by rw [← hps]; exact (nm.parts_labs hn).2
  simp only [List.length_cons] at hm8
  refine T.enter (vs := [strV (nm.glueC (x :: m))]) (H := H) Tryz.func224 rfl rfl rfl hs ?_
  repeat (any_goals (first | refine T.seq ?_ | refine T.region ?_ | refine TL.nil ?_ | refine N.next ?_ | refine N.inBlock ?_ | refine N.exit_same ?_ | refine N.exit_then ?_ | refine N.ret_then ?_ | refine N.ret_block ?_ | (apply N.exit_other; rfl) | refine T.ret ?_ | refine T.skip ?_ | refine T.exit ?_ | refine T.block ?_ | (apply T.cond_true; rfl) | (apply T.cond_false; rfl) | (apply T.test; rfl; (exact visX); intro _; rotate_left; intro _; rotate_right) | (apply TL.skip; rfl; rfl; rfl) | (apply TL.skip_none; rfl; rfl) | (apply TL.callE (f := 92) [strV (nm.glueC (x :: m))] Tryz.call92; rfl; rfl; rfl; rfl; (exact fun _ hs => hn ▸ c_nameValid01 _ _ _ hs.sat hl)) | (apply TL.x; rfl; rfl; (apply X.callFE (f := 107) [strV (nm.glueC (x :: m))] Tryz.call107; rfl; rfl; rfl; exact (fun _ hs => c_Parts (nm.glueC (x :: m)) _ _ hs.sat (by omega))); intro p hp; have hpe := hp.1.1; rw [hps] at hpe; have hpl := hp.1.2.len; rw [hpe] at hpl; simp only [List.length_cons] at hpl; have hpc := hp.1.2.cap; have hdg := hp.1.2.drop (i := 1) (by omega); have hgm : nm.glueC (p.2.drop 1).els = nm.glueC m := (by show nm.glueC (p.2.els.drop 1) = _; rw [hpe]; rfl)) | (apply TL.val; rfl; rfl; (apply V.sliceFrom (s := p.2) (i := 1); (iterate 6 rfl); omega; exact hpc)) | (apply TL.callE (f := 235) [(p.2.drop 1).v] Tryz.call235; rfl; rfl; rfl; rfl; (exact fun _ hs => nm.c_Glue (p.2.drop 1) _ _ hs.sat hdg (by show p.2.len - 1 ≤ 1000; omega) (by show ∀ y ∈ p.2.els.drop 1, _; rw [hpe]; exact fun y hy => hsh y (List.mem_cons_of_mem _ hy)))) | (apply TL.val; rfl; rfl; (first | exact vpure | exact vread)) | (apply TL.x; rfl; rfl; (first | exact xgrow | exact xput); intro _ _) | (apply TL.guard; rfl; rfl; rfl; (exact visX); intro _; rotate_left; intro _; rotate_right)))
  all_goals (try contradiction)
  all_goals (try (exfalso; omega))
  exact N.ret_two rfl (by (exact rvx)) (by (exact rvx)) (by rw [hgm])
def starC (n : Bytes) : Bytes := if nameOK (if n = [46] then [42] else [42, 46] ++ n) = true then (if n = [46] then [42] else [42, 46] ++ n) else []
theorem c_Star (n : Bytes) (hn : n.length ≤ 60) {H : Hp} {w : World} (hs : Sat H w) : Calls Tryz.prog 225 #[strV n] w (Ret w (strV (starC n))) := by
  refine T.enter (vs := [strV n]) (H := H) Tryz.func225 rfl rfl rfl hs ?_
  by_cases h : n = [46]
  · subst h
    have hv : nameOK [42] = true := by decide +kernel
    repeat (any_goals (first | refine T.seq ?_ | refine T.region ?_ | refine TL.nil ?_ | refine N.next ?_ | refine N.inBlock ?_ | refine N.exit_same ?_ | refine N.exit_then ?_ | refine N.ret_then ?_ | refine N.ret_block ?_ | (apply N.exit_other; rfl) | refine T.ret ?_ | refine T.skip ?_ | refine T.exit ?_ | refine T.block ?_ | (apply T.cond_true; rfl) | (apply T.cond_false; rfl) | (apply T.test; rfl; (exact visX); intro _; rotate_left; intro _; rotate_right) | (apply TL.skip; rfl; rfl; rfl) | (apply TL.skip_none; rfl; rfl) | (apply TL.val; rfl; rfl; (apply V.sadd; rfl; rfl; decide)) | (apply TL.callE (f := 92) [strV [42]] Tryz.call92; rfl; rfl; rfl; rfl; (exact fun _ hs => hv ▸ c_nameValid01 [42] _ _ hs.sat (by show LenOk [42]; decide))) | (apply TL.val; rfl; rfl; (first | exact vpure | exact vread)) | (apply TL.x; rfl; rfl; (first | exact xgrow | exact xput); intro _ _) | (apply TL.guard; rfl; rfl; rfl; (exact visX); intro _; rotate_left; intro _; rotate_right)))
    all_goals (try contradiction)
    exact N.ret_val rfl (by (exact rvx)) (by unfold starC; rw [if_pos rfl, if_pos hv])
  · obtain ⟨v, hv⟩ : ∃ v, nameOK ([42, 46] ++ n) = v := ⟨_, rfl⟩
    repeat (any_goals (first | refine T.seq ?_ | refine T.region ?_ | refine TL.nil ?_ | refine N.next ?_ | refine N.inBlock ?_ | refine N.exit_same ?_ | refine N.exit_then ?_ | refine N.ret_then ?_ | refine N.ret_block ?_ | (apply N.exit_other; rfl) | refine T.ret ?_ | refine T.skip ?_ | refine T.exit ?_ | refine T.block ?_ | (apply T.cond_true; rfl) | (apply T.cond_false; rfl) | (apply T.test; rfl; (exact visX); intro _; rotate_left; intro _; rotate_right) | (apply TL.skip; rfl; rfl; rfl) | (apply TL.skip_none; rfl; rfl) | (apply TL.val; rfl; rfl; (apply V.sadd; rfl; rfl; (simp only [List.length_cons, List.length_nil]; omega))) | (apply TL.callE (f := 92) [strV ([42, 46] ++ n)] Tryz.call92; rfl; rfl; rfl; rfl; (exact fun _ hs => hv ▸ c_nameValid01 ([42, 46] ++ n) _ _ hs.sat (by show ([42, 46] ++ n).length ≤ _; simp only [List.length_append, List.length_cons, List.length_nil]; omega))) | (apply TL.val; rfl; rfl; (first | exact vpure | exact vread)) | (apply TL.x; rfl; rfl; (first | exact xgrow | exact xput); intro _ _) | (apply TL.guard; rfl; rfl; rfl; (exact visX); intro _; rotate_left; intro _; rotate_right)))
    all_goals (try contradiction)
    · exact N.ret_val rfl (by (exact rvx)) (by unfold starC; rw [if_neg h, if_neg (by rw [hv]; intro h2; subst h2; contradiction)])
    · exact N.ret_val rfl (by (exact rvx)) (by unfold starC; rw [if_neg h, if_pos (by rw [hv]; assumption)])
theorem underC_in {s z : Bytes} (h1 : nameOK s = true) (h2 : nameOK z = true) : (underC s z).1 = inN s z := by
  unfold underC; rw [if_pos ⟨h1, h2⟩]; exact under_in h2
theorem below_in {s z : Bytes} (h1 : nameOK s = true) (h2 : nameOK z = true) : belowV s z = (decide (s ≠ z) && inN s z) := by
  unfold belowV; rw [underC_in h1 h2]
/-- The wildcards of the names above a name. -/
def starAt (s : Bytes) (l : List Bytes) (j : Nat) : Bool := decide (s = starC (nm.glueC (l.drop j))) && decide (s ≠ [])
theorem star_yes {s n : Bytes} (hs : nameOK s = true) (hn : nameOK n = true) {j : Nat} (h1 : 1 ≤ j) (h2 : j ≤ (parts n).length) (h : starAt s (parts n) j = true) : wildAboveC s n = true := by
  unfold starAt at h
  simp only [Bool.and_eq_true, decide_eq_true_eq] at h
  obtain ⟨h3, h4⟩ := h
  have hne : n ≠ [46] := by
    rintro rfl
    have : (parts [46]).length = 0 := by decide
    omega
  have hlab := (nm.parts_labs hn).1
  have hla : ∀ (k : Nat) (l : List Bytes), nm.labsOK l = true → nm.labsOK (l.drop k) = true := by
    intro k
    induction k with
    | zero => intro l h; exact h
    | succ k ih =>
      intro l h
      cases l with
      | nil => exact h
      | cons x r => exact ih r (nm.labs_tail h)
  have hld := hla j _ hlab
  have hpa := nm.join_parts hld
  unfold wildAboveC
  by_cases hr : nm.glueC ((parts n).drop j) = [46]
  · rw [hr, show starC [46] = [42] by decide +kernel] at h3
    rw [if_pos h3]; exact decide_eq_true hne
  · have hst : starC (nm.glueC ((parts n).drop j)) = if nameOK ([42, 46] ++ nm.glueC ((parts n).drop j)) = true then [42, 46] ++ nm.glueC ((parts n).drop j) else [] := by
      unfold starC; rw [if_neg hr]
    rw [hst] at h3
    split at h3
    · have hs2 : s ≠ [42] := by rw [h3]; simp
      have hd : s.drop 2 = nm.glueC ((parts n).drop j) := by rw [h3]; rfl
      have ht : s.take 2 = [42, 46] := by rw [h3]; rfl
      have hlen : ((parts n).drop j).length = (parts n).length - j := List.length_drop ..
      have hna : nameOK (nm.glueC ((parts n).drop j)) = true := by
        have h8 := (nm.parts_labs hn).2
        refine nm.glue_name hld (by omega) ?_
        have := nameOK_le hs
        rw [h3, List.length_append] at this
        simp only [List.length_cons, List.length_nil] at this
        omega
      rw [if_neg hs2, ht, hd, below_in hn hna]
      simp only [decide_true, Bool.true_and, Bool.and_eq_true, decide_eq_true_eq]
      refine ⟨fun e => ?_, ?_⟩
      · have := congrArg (fun z => (parts z).length) e
        simp only [hpa] at this
        omega
      · unfold inN
        rw [hpa]; exact decide_eq_true (List.drop_suffix ..)
    · exact absurd h3 h4
theorem star_no {s n : Bytes} (hs : nameOK s = true) (hn : nameOK n = true) (h : ∀ j, 1 ≤ j → j ≤ (parts n).length → starAt s (parts n) j = false) : wildAboveC s n = false := by
  rw [Bool.eq_false_iff]
  intro hw
  unfold wildAboveC at hw
  have hsne : s ≠ [] := by rintro rfl; exact absurd hs (by decide)
  by_cases h42 : s = [42]
  · rw [if_pos h42, decide_eq_true_iff] at hw
    have hlen : 1 ≤ (parts n).length := by
      unfold parts
      rw [if_neg hw]
      exact Nat.pos_of_ne_zero fun e => splitDots_ne n (List.eq_nil_of_length_eq_zero e)
    have := h (parts n).length hlen (Nat.le_refl _)
    unfold starAt at this
    rw [List.drop_length, show starC (nm.glueC []) = [42] by decide +kernel, decide_eq_true h42, decide_eq_true hsne] at this
    cases this
  · rw [if_neg h42] at hw
    simp only [Bool.and_eq_true, decide_eq_true_eq] at hw
    obtain ⟨ht, hb⟩ := hw
    have hsa : s = [42, 46] ++ s.drop 2 := by
      conv => lhs; rw [← List.take_append_drop 2 s, ht]
    have hu : (underC n (s.drop 2)).1 = true := by
      unfold belowV at hb
      rw [Bool.and_eq_true] at hb
      exact hb.2
    have hna : nameOK (s.drop 2) = true := by
      unfold underC at hu
      split at hu
      · rename_i h; exact h.2
      · cases hu
    rw [below_in hn hna] at hb
    simp only [Bool.and_eq_true, decide_eq_true_eq] at hb
    obtain ⟨hne, hin⟩ := hb
    unfold inN at hin
    rw [decide_eq_true_iff] at hin
    obtain ⟨p, hp⟩ := hin
    have hpl : (parts n).length = p.length + (parts (s.drop 2)).length := by rw [← hp, List.length_append]
    have hj : 1 ≤ p.length := by
      refine Nat.pos_of_ne_zero fun e => hne ?_
      rw [List.eq_nil_of_length_eq_zero e, List.nil_append] at hp
      rw [← nm.glue_split (s := n), ← hp, nm.glue_split]
    have := h p.length hj (by omega)
    have hdr : (parts n).drop p.length = parts (s.drop 2) := by rw [← hp, List.drop_left]
    unfold starAt at this
    rw [hdr, nm.glue_split] at this
    have hr : s.drop 2 ≠ [46] := by
      intro e
      rw [e] at hsa
      rw [hsa] at hs
      exact absurd hs (by decide +kernel)
    have hst : starC (s.drop 2) = s := by
      unfold starC
      rw [if_neg hr, ← hsa, if_pos hs]
    rw [hst, decide_eq_true rfl, decide_eq_true hsne] at this
    cases this
set_option maxHeartbeats 4000000 in
theorem c_starred (s n : Bytes) (hsn : nameOK s = true) (hn : nameOK n = true) {H : Hp} {w : World} (hs : Sat H w) : Calls Tryz.prog 198 #[strV s, strV n] w (Ret w (.bool (wildAboveC s n))) := by
  refine T.enter (vs := [strV s, strV n]) (H := H) Tryz.func198 rfl rfl rfl hs ?_
  obtain ⟨hlab, h8⟩ := nm.parts_labs hn
  have h60 := nm.glue_le hn
  have hsp := nm.glue_split (s := n)
  have hsne : s ≠ [] := by rintro rfl; exact absurd hsn (by decide)
  repeat (any_goals (first | refine T.seq ?_ | refine T.region ?_ | refine TL.nil ?_ | refine N.next ?_ | refine N.inBlock ?_ | refine N.exit_same ?_ | refine N.exit_then ?_ | refine N.ret_then ?_ | refine N.ret_block ?_ | (apply N.exit_other; rfl) | refine T.ret ?_ | refine T.skip ?_ | refine T.exit ?_ | refine T.block ?_ | (apply T.cond_true; rfl) | (apply T.cond_false; rfl) | (apply T.test; rfl; (exact visX); intro _; rotate_left; intro _; rotate_right) | (apply TL.skip; rfl; rfl; rfl) | (apply TL.skip_none; rfl; rfl) | (apply TL.val; rfl; rfl; (first | exact vpure | exact vread)) | (apply TL.x; rfl; rfl; (first | exact xgrow | exact xput); intro _ _) | (apply TL.guard; rfl; rfl; rfl; (exact visX); intro _; rotate_left; intro _; rotate_right)))
  refine T.loop (G := Nat × List Bytes) (fun g => [(0, strV s), (1, strV (nm.glueC g.2))]) (fun _ => H) (fun _ => []) (fun g => g.1 ≤ (parts n).length ∧ g.2 = (parts n).drop g.1 ∧ nm.labsOK g.2 = true ∧ (nm.glueC g.2).length ≤ 60 ∧ ∀ j, 1 ≤ j → j ≤ g.1 → starAt s (parts n) j = false) (fun g => (parts n).length - g.1) (0, parts n) ⟨Nat.zero_le _, rfl, hlab, h60, fun j h1 h2 => by omega⟩ (by rw [hsp]; (repeat (first | exact True.intro | refine ⟨rfl, ?_⟩ | refine Sub.int rfl (by omega) ?_))) rfl (by exact vsubX) ?_
  rintro ⟨k, l⟩ ⟨hk, hl, hll, hl60, hrel⟩
  simp only at hk hl hll hl60 hrel ⊢
  have hlen : l.length = (parts n).length - k := by rw [hl, List.length_drop]
  cases l with
  | nil =>
    simp only [List.length_nil] at hlen
    have hg : nm.glueC [] = [46] := rfl
    rw [hg]
    repeat (any_goals (first | refine T.seq ?_ | refine T.region ?_ | refine TL.nil ?_ | refine N.next ?_ | refine N.inBlock ?_ | refine N.exit_same ?_ | refine N.exit_then ?_ | refine N.ret_then ?_ | refine N.ret_block ?_ | (apply N.exit_other; rfl) | refine T.ret ?_ | refine T.skip ?_ | refine T.exit ?_ | refine T.block ?_ | (apply T.cond_true; rfl) | (apply T.cond_false; rfl) | (apply T.test; rfl; (exact visX); intro _; rotate_left; intro _; rotate_right) | (apply TL.skip; rfl; rfl; rfl) | (apply TL.skip_none; rfl; rfl) | (apply TL.val; rfl; rfl; (first | exact vpure | exact vread)) | (apply TL.x; rfl; rfl; (first | exact xgrow | exact xput); intro _ _) | (apply TL.guard; rfl; rfl; rfl; (exact visX); intro _; rotate_left; intro _; rotate_right)))
    all_goals (try contradiction)
    refine N.ret_bool rfl (by (exact rvx)) ?_
    exact (star_no hsn hn fun j h1 h2 => hrel j h1 (by omega)).symm
  | cons x m =>
    simp only [List.length_cons] at hlen
    have hgn : nm.glueC (x :: m) ≠ [46] := fun e => by
      have := nm.join_parts hll
      rw [e] at this
      rw [show parts [46] = [] by decide] at this
      cases this
    have hnx := nm.glue_name hll (by simp only [List.length_cons]; omega) hl60
    have hm60 : (nm.glueC m).length ≤ 60 := Nat.le_trans (nm.glue_len hll) hl60
    have hdm : m = (parts n).drop (k + 1) := by
      have : (x :: m).drop 1 = ((parts n).drop k).drop 1 := by rw [hl]
      rw [List.drop_drop] at this
      exact this
    have hat : starAt s (parts n) (k + 1) = decide (s = starC (nm.glueC m)) := by
      unfold starAt; rw [← hdm, decide_eq_true hsne, Bool.and_true]
    repeat (any_goals (first | refine T.seq ?_ | refine T.region ?_ | refine TL.nil ?_ | refine N.next ?_ | refine N.inBlock ?_ | refine N.exit_same ?_ | refine N.exit_then ?_ | refine N.ret_then ?_ | refine N.ret_block ?_ | (apply N.exit_other; rfl) | refine T.ret ?_ | refine T.skip ?_ | refine T.exit ?_ | refine T.block ?_ | (apply T.cond_true; rfl) | (apply T.cond_false; rfl) | (apply T.test; rfl; (exact visX); intro _; rotate_left; intro _; rotate_right) | (apply TL.skip; rfl; rfl; rfl) | (apply TL.skip_none; rfl; rfl) | (apply TL.callE (f := 224) [strV (nm.glueC (x :: m))] Tryz.call224; rfl; rfl; rfl; rfl; (exact fun _ hs => c_Parent01 hll hnx hs.sat)) | (apply TL.callE (f := 225) [strV (nm.glueC m)] Tryz.call225; rfl; rfl; rfl; rfl; (exact fun _ hs => c_Star (nm.glueC m) hm60 hs.sat)) | (apply TL.val; rfl; rfl; (first | exact vpure | exact vread)) | (apply TL.x; rfl; rfl; (first | exact xgrow | exact xput); intro _ _) | (apply TL.guard; rfl; rfl; rfl; (exact visX); intro _; rotate_left; intro _; rotate_right)))
    all_goals (try contradiction)
    · refine N.ret_bool rfl (by (exact rvx)) ?_
      exact (star_yes hsn hn (j := k + 1) (by omega) (by omega) (by rw [hat]; exact decide_eq_true (by assumption))).symm
    · refine N.round (k + 1, m) ⟨by show k + 1 ≤ _; omega, hdm, nm.labs_tail hll, hm60, fun j h1 h2 => ?_⟩ (by show (parts n).length - (k + 1) < (parts n).length - k; omega) (by exact vsub0) rfl (by exact vsubX)
      by_cases e : j = k + 1
      · rw [e, hat]; exact decide_eq_false (by assumption)
      · exact hrel j h1 (by simp only at h2; omega)
end Go.Proofs.YtogcofeencgipaaGreatDoor
