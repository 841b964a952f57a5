import Derived.Test.YthabgdbhgcgemaaGreatDoorQZH
namespace Go.Proofs.YthabgdbhgcgemaaGreatDoor
set_option linter.unusedVariables false
set_option linter.unusedSimpArgs false
open Go Go.RowKit
open Enc (enc)
set_option maxRecDepth 20000
theorem star_take {z : Bytes} (h : nameOK z = true) (hs : starN z = false) : decide (z.take ([42] : Bytes).length = [42]) = false := by
  rw [decide_eq_false_iff_not]
  intro ht
  rcases z with _ | ⟨c, r⟩
  · simp at ht
  · simp only [List.length_cons, List.length_nil, Nat.zero_add, List.take_succ_cons, List.take_zero, List.cons.injEq, and_true] at ht
    subst ht
    have hd : (42 :: r : Bytes) ≠ [46] := by simp
    obtain ⟨p, q, hp⟩ : ∃ p q, splitDots (42 :: r) = (42 :: p) :: q := by
      unfold splitDots
      rw [if_neg (by decide)]
      cases splitDots r with
      | nil => exact ⟨[], [], rfl⟩
      | cons p q => exact ⟨p, q, rfl⟩
    have hst : (42 :: p : Bytes) ≠ [42] := fun e => by
      unfold starN parts at hs
      rw [if_neg hd, hp] at hs
      simp [e] at hs
    rcases (nameOK_iff _).1 h with h1 | ⟨_, h1⟩
    · exact hd h1
    · have h2 := h1.2 q.length (by rw [hp]; simp)
      have h3 : ∀ hl, (splitDots (42 :: r)).reverse[q.length]'hl = 42 :: p := fun hl => by simp [hp]
      rw [h3] at h2
      rcases h2 with h2 | ⟨_, h2⟩
      · unfold isLab isWord at h2
        rw [decide_eq_true_iff] at h2
        have := h2.2.2 0 (by simp)
        revert this
        unfold WordAt
        simp
      · exact hst h2
def cmpN (a : Bytes) (s : Int) (b : Bytes) (t : Int) : Int := if a = b then cmpI s t else ordN a b
set_option maxHeartbeats 1000000 in
theorem c_comparePlaces (a b : Bytes) (s t : Int) (ha : nameOK a = true) (hb : nameOK b = true) {H : Hp} {w : World} (hs : Sat H w) : Calls Tryz.prog 97 #[strV a, intV s, strV b, intV t] w (Ret w (intV (cmpN a s b t))) := by
  refine T.enter (vs := [strV a, intV s, strV b, intV t]) (H := H) Tryz.func97 rfl rfl rfl hs ?_
  by_cases e : a = b
  · rw [show cmpN a s b t = cmpI s t by unfold cmpN; rw [if_pos e]]
    repeat (any_goals (first | refine T.seq ?_ | refine T.region ?_ | refine TL.nil ?_ | refine N.next ?_ | refine N.ret_then ?_ | refine T.ret ?_ | refine T.skip ?_ | (apply T.test; rfl; (exact isx); intro _; rotate_left; intro _; rotate_right) | (apply TL.callE (f := 134) [strV a, strV b] Tryz.call134; (iterate 4 rfl); (exact fun _ hs => c_CompareN a b ha hb hs.sat)) | (apply TL.callE (f := 135) [intV s, intV t] Tryz.call135; (iterate 4 rfl); (exact fun _ hs => c_cmpI _ _ _ _ hs.sat)) | (apply TL.val; rfl; rfl; (first | exact vpure | exact vread))))
    all_goals (try contradiction)
    exact N.ret_int rfl (by (exact rvx)) rfl
  · rw [show cmpN a s b t = ordN a b by unfold cmpN; rw [if_neg e]]
    repeat (any_goals (first | refine T.seq ?_ | refine T.region ?_ | refine TL.nil ?_ | refine N.next ?_ | refine N.ret_then ?_ | refine T.ret ?_ | refine T.skip ?_ | (apply T.test; rfl; (exact isx); intro _; rotate_left; intro _; rotate_right) | (apply TL.callE (f := 134) [strV a, strV b] Tryz.call134; (iterate 4 rfl); (exact fun _ hs => c_CompareN a b ha hb hs.sat)) | (apply TL.callE (f := 135) [intV s, intV t] Tryz.call135; (iterate 4 rfl); (exact fun _ hs => c_cmpI _ _ _ _ hs.sat)) | (apply TL.val; rfl; rfl; (first | exact vpure | exact vread))))
    all_goals (try contradiction)
    exact N.ret_int rfl (by (exact rvx)) rfl
def cmpQ (x : Signed) (q : Question) : Int := cmpN x.set.name x.set.typ q.name q.typ
theorem c_find1 (x : Signed) (q : Question) (hx : nameOK x.set.name = true) (hq : nameOK q.name = true) {H : Hp} {w : World} (hs : Sat H w) : Calls Tryz.prog 96 #[.agg (enc x).toArray, .agg (enc q).toArray] w (Ret w (intV (cmpQ x q))) := by
  refine T.enter (vs := [.agg (enc x).toArray, .agg (enc q).toArray]) (H := H) Tryz.func96 rfl rfl rfl hs ?_
  repeat (any_goals (first | refine T.seq ?_ | refine T.region ?_ | refine TL.nil ?_ | refine N.next ?_ | refine T.ret ?_ | (apply TL.callE (f := 97) [strV x.set.name, intV x.set.typ, strV q.name, intV q.typ] Tryz.call97; (iterate 4 rfl); (exact fun _ hs => c_comparePlaces _ _ _ _ hx hq hs.sat)) | (apply TL.val; rfl; rfl; (first | exact vpure | exact vread)) | (apply TL.x; rfl; rfl; (first | exact xgrow | exact xput); intro _ _)))
  exact N.ret_int rfl (by (exact rvx)) rfl
structure FoundAt (els : List Signed) (q : Question) (r : Nat) : Prop where
  lt : r < els.length
  eq : cmpQ (els[r]'lt) q = 0
  lo : ∀ j (h : j < els.length), j < r → cmpQ els[j] q < 0
  hi : ∀ j (h : j < els.length), r ≤ j → ¬ cmpQ els[j] q < 0
set_option maxHeartbeats 2000000 in
theorem c_searchZ (s : Slc Signed) (q : Question) (r : Nat) (hn : ∀ x ∈ s.els, nameOK x.set.name = true) (hq : nameOK q.name = true) {H : Hp} {w : World} (hs : Sat H w) (hg : s.Good H) (hr : FoundAt s.els q r) (hb : s.len ≤ 20000) : Calls Tryz.prog 95 #[s.v, .agg (enc q).toArray, .func (.func 96) #[] #[]] w (Ret w (.tuple #[intV r, .bool true])) := by
  have hlen : s.els.length = s.len := hg.len
  obtain ⟨hr0, hr1, hr2, hr3⟩ := hr
  refine T.enter (vs := [s.v, .agg (enc q).toArray, .func (.func 96) #[] #[]]) (H := H) Tryz.func95 rfl rfl rfl hs ?_
  repeat (any_goals (first | refine T.seq ?_ | refine T.region ?_ | refine TL.nil ?_ | refine N.next ?_ | refine T.block ?_ | (apply TL.val; rfl; rfl; (first | exact vpure | exact vread)) | (apply TL.x; rfl; rfl; (first | exact xgrow | exact xput); intro _ _)))
  rename_i b _
  refine T.loop (G := Nat × Nat) (fun g => [(0, s.v), (2, .func (.func 96) #[] #[]), (4, .pointer (some ⟨b, 0, none⟩)), (8, intV s.len), (9, intV g.1), (10, intV g.2)]) (fun _ => H) (fun _ => [.blk b 91 (enc q)]) (fun g => g.1 ≤ r ∧ r ≤ g.2 ∧ g.2 ≤ s.len) (fun g => g.2 - g.1) (0, s.len) ⟨Nat.zero_le _, by omega, Nat.le_refl _⟩ (by (repeat (first | exact True.intro | refine ⟨rfl, ?_⟩ | refine Sub.int rfl (by omega) ?_))) rfl (by (first | exact List.Sublist.refl _ | exact List.nil_sublist _ | exact List.Sublist.cons _ (List.Sublist.refl _) | exact List.Sublist.cons _ (List.Sublist.cons _ (List.Sublist.refl _)))) ?_
  rintro ⟨i, j⟩ ⟨hi, hj, hjl⟩
  simp only at hi hj hjl ⊢
  repeat (any_goals (first | refine T.seq ?_ | refine T.region ?_ | (apply T.regionD wide; rfl) | refine TL.nil ?_ | refine N.next ?_ | refine N.inBlock ?_ | refine N.exit_same ?_ | refine N.exit_then ?_ | refine T.ret ?_ | refine T.skip ?_ | refine T.exit ?_ | refine T.block ?_ | (apply T.test; rfl; (exact isx); intro _; rotate_left; intro _; rotate_right) | (apply GT.skip; rfl; rfl; rfl; decide +kernel) | (apply TL.val; rfl; rfl; (apply V.half; rfl; rfl)) | (apply TL.val; rfl; rfl; (apply V.conv; (iterate 4 rfl); exact IntWalk.u64_in _ (by constructor <;> omega))) | (apply TL.val; rfl; rfl; (apply V.conv; (iterate 4 rfl); exact wrap_i64 (by constructor <;> omega))) | (apply GT.call; (iterate 6 rfl); exact Tryz.call96; exact fun _ hs => c_find1 _ _ (hn _ (List.getElem_mem _)) hq hs.sat; decide +kernel) | (apply TL.val; rfl; rfl; (first | exact vpure | exact vread)) | (apply GT.pure; (iterate 4 rfl); (first | exact vpure); decide +kernel) | (apply GT.read; (iterate 4 rfl); (first | exact vpure | exact vread); decide +kernel) | (apply GT.done; decide +kernel; apply N.ofQ) | (apply GT.guard; (iterate 4 rfl); (exact isx); intro _; rotate_left; intro _; rotate_right)))
  all_goals first
    | (refine N.round ((i + j) / 2 + 1, j) ?_ ?_ (by (repeat (first | exact True.intro | refine ⟨rfl, ?_⟩ | refine Sub.int rfl (by omega) ?_))) rfl (by (first | exact List.Sublist.refl _ | exact List.nil_sublist _ | exact List.Sublist.cons _ (List.Sublist.refl _) | exact List.Sublist.cons _ (List.Sublist.cons _ (List.Sublist.refl _))))
       · have : (i + j) / 2 < r := Nat.lt_of_not_le fun h => hr3 _ (by omega) h (by assumption)
         exact ⟨by show (i + j) / 2 + 1 ≤ r; omega, hj, hjl⟩
       · show j - ((i + j) / 2 + 1) < j - i; omega)
    | (refine N.round (i, (i + j) / 2) ?_ ?_ (by (repeat (first | exact True.intro | refine ⟨rfl, ?_⟩ | refine Sub.int rfl (by omega) ?_))) rfl (by (first | exact List.Sublist.refl _ | exact List.nil_sublist _ | exact List.Sublist.cons _ (List.Sublist.refl _) | exact List.Sublist.cons _ (List.Sublist.cons _ (List.Sublist.refl _))))
       · have : r ≤ (i + j) / 2 := Nat.le_of_not_lt fun h => (by assumption : ¬ cmpQ (s.els[(i + j) / 2]'(by omega)) q < 0) (hr2 _ (by omega) h)
         exact ⟨hi, this, by show (i + j) / 2 ≤ s.len; omega⟩
       · show (i + j) / 2 - i < j - i; omega)
    | (obtain rfl : i = r := by omega
       first
         | (exfalso; omega)
         | (apply N.ret2; rfl; (exact rvx); (exact rvx)
            intro w1 hst
            refine ⟨?_, hst.below⟩
            simp only [hr1]
            rfl))
theorem c_findZ (z : ZoneV) (q : Question) (r : Nat) (hn : ∀ x ∈ z.sets.els, nameOK x.set.name = true) (hq : nameOK q.name = true) {H : Hp} {w : World} (hs : Sat H w) (hz : Enc.good H z) (hr : FoundAt z.sets.els q r) (hb : z.sets.len ≤ 20000) : Calls Tryz.prog 56 #[.agg (enc z).toArray, .agg (enc q).toArray] w (Ret w (.tuple #[intV r, .bool true])) := by
  refine T.enter (vs := [.agg (enc z).toArray, .agg (enc q).toArray]) (H := H) Tryz.func56 rfl rfl rfl hs ?_
  repeat (any_goals (first | refine T.seq ?_ | refine T.region ?_ | refine TL.nil ?_ | refine N.next ?_ | refine T.ret ?_ | (apply TL.callE (f := 95) [z.sets.v, .agg (enc q).toArray, .func (.func 96) #[] #[]] Tryz.call95; (iterate 4 rfl); (exact fun _ hs => c_searchZ z.sets q r hn hq hs.sat hz.2 hr hb)) | (apply TL.val; rfl; rfl; (first | exact vpure | exact vread)) | (apply TL.x; rfl; rfl; (first | exact xgrow | exact xput); intro _ _)))
  exact N.ret_two rfl (by (exact rvx)) (by (exact rvx)) rfl
theorem c_fitsApex (t : Int) (b : Bool) {H : Hp} {w : World} (hs : Sat H w) : Calls Tryz.prog 131 #[intV t, .bool b] w (Ret w (.bool (placedOK t b))) := by
  refine T.enter (vs := [intV t, .bool b]) (H := H) Tryz.func131 rfl rfl rfl hs ?_
  repeat (any_goals (first | refine T.seq ?_ | refine T.region ?_ | refine TL.nil ?_ | refine N.next ?_ | refine N.inBlock ?_ | refine N.ret_then ?_ | refine N.ret_block ?_ | refine T.ret ?_ | refine T.skip ?_ | refine T.block ?_ | (apply T.test; rfl; (exact isx); intro _; rotate_left; intro _; rotate_right) | (apply TL.val; rfl; rfl; (first | exact vpure | exact vread))))
  all_goals (try (first | (apply N.ret_bool; rfl; (exact rvx)) | (apply N.ret_int; rfl; (exact rvx)) | (apply N.ret_val; rfl; (exact rvx))))
  all_goals (unfold placedOK; grind)
end Go.Proofs.YthabgdbhgcgemaaGreatDoor
namespace Go.Proofs.YthabgdbhgcgemaaGreatDoor
set_option linter.unusedVariables false
set_option linter.unusedSimpArgs false
open Go Go.RowKit
open Enc (enc)
set_option maxRecDepth 20000
theorem ordN_flip (a b : Bytes) : ordN b a = -ordN a b := lexL_flip _ _
theorem cmpI_lt {x y : Int} : cmpI x y < 0 ↔ x < y := by
  unfold cmpI
  by_cases h : x < y
  · simp [h]
  · rw [if_neg h]
    split <;> simp [h]
theorem ordSet_lt {a b : SetC} : ordSet a b < 0 ↔ (ordN a.name b.name = 0 ∧ a.typ < b.typ) ∨ ordN a.name b.name < 0 := by
  unfold ordSet
  by_cases h : ordN a.name b.name = 0
  · rw [if_pos h, cmpI_lt]
    constructor
    · intro k; exact .inl ⟨h, k⟩
    · rintro (⟨_, k⟩ | k)
      · exact k
      · omega
  · rw [if_neg h]
    constructor
    · intro k; exact .inr k
    · rintro (⟨k, _⟩ | k)
      · exact absurd k h
      · exact k
theorem ordSet_trans {a b c : SetC} (h : ordSet a b < 0) (k : ordSet b c < 0) : ordSet a c < 0 := by
  have h1 := ordSet_le h
  have h2 := ordSet_le k
  have h3 := ordNames.trans h1 h2
  have f1 := leN_iff.1 h1
  have f2 := leN_iff.1 h2
  have f3 := leN_iff.1 h3
  rw [ordSet_lt] at h k ⊢
  by_cases e : ordN a.name c.name = 0
  · have h4 : leN c.name a.name = true := leN_iff.2 (by rw [ordN_flip]; omega)
    have g1 := leN_iff.1 (ordNames.trans h2 h4)
    have g2 := leN_iff.1 (ordNames.trans h4 h1)
    rw [ordN_flip] at g1 g2
    have hb := h.resolve_right (by omega)
    have kb := k.resolve_right (by omega)
    exact .inl ⟨e, by have := hb.2; have := kb.2; omega⟩
  · exact .inr (by omega)
theorem OneZ.before {z : ZoneC} (h : OneZ z) {i j : Nat} (hij : i < j) (hj : j < z.sets.length) : ordSet (z.sets[i]'(by omega)).set z.sets[j].set < 0 := by
  induction j with
  | zero => omega
  | succ j ih =>
    have hs := (h.each (j + 1) hj).2.2 (Nat.succ_pos j)
    simp only [Nat.add_sub_cancel] at hs
    by_cases e : i = j
    · subst e; exact hs
    · exact ordSet_trans (ih (by omega) (by omega)) hs
theorem ordSet_no {a b : SetC} (h : ordSet a b < 0) : ¬ ordSet b a < 0 := fun k => by
  have := ordSet_trans h k
  rw [ordSet_lt, show ordN a.name a.name = 0 from lexL_self _] at this
  rcases this with ⟨_, h⟩ | h <;> omega
theorem OneZ.found {z : ZoneV} (h : OneZ z.c) {t : Int} (hf : ∃ s ∈ z.c.sets, s.set.name = z.c.apex ∧ s.set.typ = t) : ∃ r, FoundAt z.sets.els ⟨z.apex, t⟩ r := by
  obtain ⟨s, hm, hn, ht⟩ := hf
  obtain ⟨r, hr, rfl⟩ := List.mem_iff_getElem.1 hm
  have hr' : r < z.sets.els.length := by rw [← setsC_len]; exact hr
  rw [setsC_at hr hr'] at hn ht
  have hn' : z.sets.els[r].set.name = z.apex := hn
  have ht' : z.sets.els[r].set.typ = t := ht
  have hc : ∀ j (hj : j < z.sets.els.length), cmpQ z.sets.els[j] ⟨z.apex, t⟩ = ordSet z.sets.els[j].set.c z.sets.els[r].set.c := fun j hj => by
    have e1 := h.nameAt (i := j) (by rw [setsC_len]; exact hj)
    have e2 := h.nameAt (i := r) hr
    rw [setsC_at (by rw [setsC_len]; exact hj) hj] at e1
    rw [setsC_at hr hr'] at e2
    refine Eq.trans ?_ (cmpPl_eq e1 e2)
    unfold cmpQ cmpN cmpPl
    rw [← hn', ← ht']
    rfl
  have hself : ordSet z.sets.els[r].set.c z.sets.els[r].set.c = 0 := by
    unfold ordSet
    rw [if_pos (show ordN _ _ = 0 from lexL_self _)]
    unfold cmpI; simp
  have hb : ∀ i j (hj : j < z.sets.els.length) (hij : i < j), ordSet (z.sets.els[i]'(by omega)).set.c z.sets.els[j].set.c < 0 := fun i j hj hij => by
    have := h.before hij (by rw [setsC_len]; exact hj)
    rw [setsC_at (by rw [setsC_len]; omega) (by omega), setsC_at (by rw [setsC_len]; exact hj) hj] at this
    exact this
  refine ⟨r, hr', by rw [hc r hr', hself], fun j hj hjr => by rw [hc j hj]; exact hb j r hr' hjr, fun j hj hrj => ?_⟩
  rw [hc j hj]
  by_cases e : j = r
  · subst e; rw [hself]; decide
  · exact ordSet_no (hb r j hj (by omega))
theorem OneZ.names {z : ZoneV} (h : OneZ z.c) : ∀ x ∈ z.sets.els, nameOK x.set.name = true := fun x hx => by
  refine h.nameMem (s := x.c) ?_
  unfold ZoneV.c
  exact List.mem_map.2 ⟨x, hx, rfl⟩
theorem c_UnderIn (s z : Bytes) (hn : nameOK s = true) (hz : nameOK z = true) {b : Bool} (h : inN s z = b) {H : Hp} {w : World} (hs : Sat H w) : Calls Tryz.prog 130 #[strV s, strV z] w (Ret w (.tuple #[.bool b, intV 0])) := by
  have h1 := name_len60 hn
  have h2 := name_len60 hz
  have := c_Under s z H w hs (by show _ ≤ 9223372036854775807; omega) (by show _ ≤ 9223372036854775807; omega)
  rw [show underC s z = (b, 0) by unfold underC; rw [if_pos ⟨hn, hz⟩, under_in hz, h]] at this
  exact this
theorem c_RV (x : RSet) (h : setOK x.c = true) {H : Hp} {w : World} (hs : Sat H w) (hR : Rules H) (hg : Enc.good H x) : Calls Tryz.prog 129 #[.agg (enc x).toArray] w (Ret w (.bool true)) := h ▸ c_recordValid x H w hs hR hg
set_option maxHeartbeats 4000000 in
theorem c_ordered (z : ZoneV) (h1 : OneZ z.c) {H : Hp} {w : World} (hs : Sat H w) (hR : Rules H) (hz : Enc.good H z) : Calls Tryz.prog 73 #[.agg (enc z).toArray] w (Ret w (.bool true)) := by
  have hg := hz.2
  have hlen := hg.len
  have hlim := hg.lim
  have hv : nameOK z.apex = true := h1.apexOK
  have hst : starN z.apex = false := h1.tame
  have ha60 := name_len60 hv
  have hf : z.sets.len ≤ 20000 := by have := h1.few; rw [setsC_len] at this; omega
  refine T.enter (vs := [.agg (enc z).toArray]) (H := H) Tryz.func73 rfl rfl rfl hs ?_
  repeat (any_goals (first | refine T.seq ?_ | refine T.region ?_ | refine TL.nil ?_ | refine N.next ?_ | refine N.ret_then ?_ | refine T.ret ?_ | refine T.skip ?_ | refine T.block ?_ | (apply T.test; rfl; (exact isx); intro _; rotate_left; intro _; rotate_right) | (apply TL.x; rfl; rfl; (apply X.box (d := 1); rfl; rfl; rfl); intro b1 _) | (apply TL.callE (f := 127) [strV z.apex] Tryz.call127; (iterate 4 rfl); (exact fun _ hs => hv ▸ c_nameValid z.apex _ _ hs.sat hz.1)) | (apply TL.callE (f := 128) [strV z.apex, strV [42]] Tryz.call128; (iterate 4 rfl); (exact fun _ hs => star_take hv hst ▸ c_HasPrefix z.apex [42] _ _ hs.sat hz.1 (by decide))) | (apply TL.val; rfl; rfl; (first | exact vpure | exact vread))))
  all_goals (try contradiction)
  all_goals (try (exfalso; omega))
  refine T.loop (G := Nat) (fun k => [(1, .pointer (some ⟨b1, 0, none⟩)), (28, z.sets.v), (29, intV z.sets.len), (30, intV k)]) (fun _ => H) (fun _ => [.blk b1 116 (enc z)]) (fun k => k ≤ z.sets.len) (fun k => z.sets.len - k) 0 (Nat.zero_le _) (by (repeat (first | exact True.intro | refine ⟨rfl, ?_⟩ | refine Sub.int rfl (by omega) ?_))) rfl (by (repeat (first | exact List.Sublist.refl _ | exact List.nil_sublist _ | apply List.Sublist.cons_cons | apply List.Sublist.cons))) ?_
  intro k hk
  by_cases hlt : k < z.sets.len
  · have hkl : k < z.sets.els.length := by omega
    have hkc : k < z.c.sets.length := by rw [setsC_len]; exact hkl
    have hsg := hg.els _ (List.getElem_mem hkl)
    have hrow := hg.row (k := k) hlt
    obtain ⟨e1, e2, e3⟩ := h1.each k hkc
    rw [setsC_at hkc hkl] at e1 e2 e3
    obtain ⟨x, hx⟩ : ∃ x, z.sets.els[k]'hkl = x := ⟨_, rfl⟩
    rw [hx] at hsg e1 e2 e3
    try rw [hx] at hrow
    have e1 : setOK x.set.c = true := e1
    have e2 : inN x.set.name z.apex = true := e2
    have hxn : nameOK x.set.name = true := setOK_name e1
    cases k with
    | zero =>
      repeat (any_goals (first | refine T.seq ?_ | refine T.region ?_ | refine TL.nil ?_ | refine N.next ?_ | refine N.exit_same ?_ | refine N.exit_then ?_ | refine T.ret ?_ | refine T.skip ?_ | refine T.exit ?_ | refine T.block ?_ | (apply T.cond_true; rfl) | (apply T.cond_false; rfl) | (apply T.test; rfl; (exact isx); intro _; rotate_left; intro _; rotate_right) | (apply TL.val; rfl; rfl; (apply V.elem (j := 0); (iterate 6 rfl); omega; exact hg.at_ (by omega))) | (apply TL.val; rfl; rfl; (apply V.load_H_row; rfl; rfl; rfl; exact hrow; rfl)) | (apply TL.x; rfl; rfl; (apply X.alloc (d := 4); rfl; rfl; rfl); intro b4 _) | (apply TL.x; rfl; rfl; (apply X.storeTo 0 (enc x); (iterate 10 rfl)); intro _ _) | (apply TL.callE (f := 129) [.agg (enc x.set).toArray] Tryz.call129; (iterate 4 rfl); (exact fun _ hs => c_RV x.set e1 hs.sat hR hsg.1)) | (apply TL.callE (f := 130) [strV x.set.name, strV z.apex] Tryz.call130; (iterate 4 rfl); (exact fun _ hs => c_UnderIn x.set.name z.apex hxn hv e2 hs.sat)) | (apply TL.val; rfl; rfl; (first | exact vpure | exact vread))))
      all_goals (try contradiction)
      all_goals (try (exfalso; omega))
      refine N.round 1 (by omega) (by show z.sets.len - 1 < z.sets.len - 0; omega) (by (repeat (first | exact True.intro | refine ⟨rfl, ?_⟩ | refine Sub.int rfl (by omega) ?_))) rfl (by (repeat (first | exact List.Sublist.refl _ | exact List.nil_sublist _ | apply List.Sublist.cons_cons | apply List.Sublist.cons)))
    | succ k =>
      have hkl0 : k < z.sets.els.length := by omega
      have hrow0 := hg.part (k := k) (j := 0) (m := 4) (by omega) (vs := enc (z.sets.els[k]'hkl0).set) rfl
      have e3 := e3 (Nat.succ_pos k)
      simp only [Nat.add_sub_cancel] at e3
      rw [setsC_at (by rw [setsC_len]; exact hkl0) hkl0] at e3
      have hyn0 := h1.names _ (List.getElem_mem hkl0)
      obtain ⟨y, hy⟩ : ∃ y, z.sets.els[k]'hkl0 = y := ⟨_, rfl⟩
      rw [hy] at hrow0 e3 hyn0
      have e3 : ordSet y.set.c x.set.c < 0 := e3
      obtain ⟨o, ho⟩ : ∃ o, cmpN y.set.name y.set.typ x.set.name x.set.typ = o := ⟨_, rfl⟩
      have hlo : o < 0 := by
        rw [← cmpPl_eq hyn0 hxn] at e3
        rw [← ho]; exact e3
      repeat (any_goals (first | refine T.seq ?_ | refine T.region ?_ | refine TL.nil ?_ | refine N.next ?_ | refine N.inBlock ?_ | refine N.exit_same ?_ | refine N.exit_then ?_ | refine N.ret_then ?_ | refine N.ret_block ?_ | refine T.ret ?_ | refine T.skip ?_ | refine T.exit ?_ | refine T.block ?_ | (apply T.cond_false; rfl) | (apply T.test; rfl; (exact isx); intro _; rotate_left; intro _; rotate_right) | (apply TL.val; rfl; rfl; (apply V.elem (j := k + 1); (iterate 6 rfl); omega; exact hg.at_ (by omega))) | (apply TL.val; rfl; rfl; (apply V.load_H_row; rfl; rfl; rfl; exact hrow; rfl)) | (apply TL.x; rfl; rfl; (apply X.alloc (d := 4); rfl; rfl; rfl); intro b4 _) | (apply TL.x; rfl; rfl; (apply X.storeTo 0 (enc x); (iterate 10 rfl)); intro _ _) | (apply TL.callE (f := 129) [.agg (enc x.set).toArray] Tryz.call129; (iterate 4 rfl); (exact fun _ hs => c_RV x.set e1 hs.sat hR hsg.1)) | (apply TL.callE (f := 130) [strV x.set.name, strV z.apex] Tryz.call130; (iterate 4 rfl); (exact fun _ hs => c_UnderIn x.set.name z.apex hxn hv e2 hs.sat)) | (apply TL.val; rfl; rfl; (apply V.elem (j := k); (iterate 5 rfl); omega; omega; exact hg.at_ (by omega))) | (apply TL.val; rfl; rfl; (apply V.load_H_row; rfl; rfl; rfl; exact hrow0; rfl)) | (apply TL.x; rfl; rfl; (apply X.alloc (d := 7); rfl; rfl; rfl); intro b7 _) | (apply TL.x; rfl; rfl; (apply X.storeTo 0 (enc y.set); (iterate 10 rfl)); intro _ _) | (apply TL.callE (f := 97) [strV y.set.name, intV y.set.typ, strV x.set.name, intV x.set.typ] Tryz.call97; (iterate 4 rfl); (exact fun _ hs => ho ▸ c_comparePlaces y.set.name x.set.name y.set.typ x.set.typ hyn0 hxn hs.sat)) | (apply TL.val; rfl; rfl; (first | exact vpure | exact vread))))
      all_goals (try contradiction)
      all_goals (try (exfalso; omega))
      refine N.round (k + 2) (by omega) (by show z.sets.len - (k + 2) < z.sets.len - (k + 1); omega) (by (repeat (first | exact True.intro | refine ⟨rfl, ?_⟩ | refine Sub.int rfl (by omega) ?_))) rfl (by (repeat (first | exact List.Sublist.refl _ | exact List.nil_sublist _ | apply List.Sublist.cons_cons | apply List.Sublist.cons)))
  · repeat (any_goals (first | refine T.seq ?_ | refine T.region ?_ | refine TL.nil ?_ | refine N.next ?_ | refine N.exit_same ?_ | refine N.exit_then ?_ | refine T.ret ?_ | refine T.skip ?_ | refine T.exit ?_ | refine T.block ?_ | (apply T.test; rfl; (exact isx); intro _; rotate_left; intro _; rotate_right) | (apply TL.val; rfl; rfl; (first | exact vpure | exact vread)) | (apply TL.x; rfl; rfl; (first | exact xgrow | exact xput); intro _ _)))
    all_goals (try (exfalso; omega))
    exact N.ret_bool rfl (by (exact rvx)) rfl
end Go.Proofs.YthabgdbhgcgemaaGreatDoor
