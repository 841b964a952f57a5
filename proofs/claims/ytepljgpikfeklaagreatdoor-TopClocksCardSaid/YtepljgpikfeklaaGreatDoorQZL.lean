import Derived.Test.YtepljgpikfeklaaGreatDoorQZI
namespace Go.Proofs.YtepljgpikfeklaaGreatDoor
set_option linter.unusedVariables false
set_option linter.unusedSimpArgs false
open Go Go.RowKit
open Enc (enc)
set_option maxRecDepth 20000
theorem ordN_flip (a b : Bytes) : ordN b a = -ordN a b := lexL_flip _ _
theorem cmpI_lt {x y : Int} : cmpI x y < 0 ↔ x < y := by
  unfold cmpI
  by_cases h : x < y
  · simp [h]
  · rw [if_neg h]
    split <;> simp [h]
theorem ordSet_lt {a b : SetC} : ordSet a b < 0 ↔ (ordN a.name b.name = 0 ∧ a.typ < b.typ) ∨ ordN a.name b.name < 0 := by
  unfold ordSet
  by_cases h : ordN a.name b.name = 0
  · rw [if_pos h, cmpI_lt]
    constructor
    · intro k; exact .inl ⟨h, k⟩
    · rintro (⟨_, k⟩ | k)
      · exact k
      · omega
  · rw [if_neg h]
    constructor
    · intro k; exact .inr k
    · rintro (⟨k, _⟩ | k)
      · exact absurd k h
      · exact k
theorem ordSet_trans {a b c : SetC} (h : ordSet a b < 0) (k : ordSet b c < 0) : ordSet a c < 0 := by
  have h1 := ordSet_le h
  have h2 := ordSet_le k
  have h3 := ordNames.trans h1 h2
  have f1 := leN_iff.1 h1
  have f2 := leN_iff.1 h2
  have f3 := leN_iff.1 h3
  rw [ordSet_lt] at h k ⊢
  by_cases e : ordN a.name c.name = 0
  · have h4 : leN c.name a.name = true := leN_iff.2 (by rw [ordN_flip]; omega)
    have g1 := leN_iff.1 (ordNames.trans h2 h4)
    have g2 := leN_iff.1 (ordNames.trans h4 h1)
    rw [ordN_flip] at g1 g2
    have hb := h.resolve_right (by omega)
    have kb := k.resolve_right (by omega)
    exact .inl ⟨e, by have := hb.2; have := kb.2; omega⟩
  · exact .inr (by omega)
theorem OneZ.before {z : ZoneC} (h : OneZ z) {i j : Nat} (hij : i < j) (hj : j < z.sets.length) : ordSet (z.sets[i]'(by omega)).set z.sets[j].set < 0 := by
  induction j with
  | zero => omega
  | succ j ih =>
    have hs := (h.each (j + 1) hj).2.2 (Nat.succ_pos j)
    simp only [Nat.add_sub_cancel] at hs
    by_cases e : i = j
    · subst e; exact hs
    · exact ordSet_trans (ih (by omega) (by omega)) hs
theorem ordSet_no {a b : SetC} (h : ordSet a b < 0) : ¬ ordSet b a < 0 := fun k => by
  have := ordSet_trans h k
  rw [ordSet_lt, show ordN a.name a.name = 0 from lexL_self _] at this
  rcases this with ⟨_, h⟩ | h <;> omega
theorem OneZ.found {z : ZoneV} (h : OneZ z.c) {t : Int} (hf : ∃ s ∈ z.c.sets, s.set.name = z.c.apex ∧ s.set.typ = t) : ∃ r, FoundAt z.sets.els ⟨z.apex, t⟩ r := by
  obtain ⟨s, hm, hn, ht⟩ := hf
  obtain ⟨r, hr, rfl⟩ := List.mem_iff_getElem.1 hm
  have hr' : r < z.sets.els.length := by rw [← setsC_len]; exact hr
  rw [setsC_at hr hr'] at hn ht
  have hn' : z.sets.els[r].set.name = z.apex := hn
  have ht' : z.sets.els[r].set.typ = t := ht
  have hc : ∀ j (hj : j < z.sets.els.length), cmpQ z.sets.els[j] ⟨z.apex, t⟩ = ordSet z.sets.els[j].set.c z.sets.els[r].set.c := fun j hj => by
    have e1 := h.nameAt (i := j) (by rw [setsC_len]; exact hj)
    have e2 := h.nameAt (i := r) hr
    rw [setsC_at (by rw [setsC_len]; exact hj) hj] at e1
    rw [setsC_at hr hr'] at e2
    refine Eq.trans ?_ (cmpPl_eq e1 e2)
    unfold cmpQ cmpN cmpPl
    rw [← hn', ← ht']
    rfl
  have hself : ordSet z.sets.els[r].set.c z.sets.els[r].set.c = 0 := by
    unfold ordSet
    rw [if_pos (show ordN _ _ = 0 from lexL_self _)]
    unfold cmpI; simp
  have hb : ∀ i j (hj : j < z.sets.els.length) (hij : i < j), ordSet (z.sets.els[i]'(by omega)).set.c z.sets.els[j].set.c < 0 := fun i j hj hij => by
    have := h.before hij (by rw [setsC_len]; exact hj)
    rw [setsC_at (by rw [setsC_len]; omega) (by omega), setsC_at (by rw [setsC_len]; exact hj) hj] at this
    exact this
  refine ⟨r, hr', by rw [hc r hr', hself], fun j hj hjr => by rw [hc j hj]; exact hb j r hr' hjr, fun j hj hrj => ?_⟩
  rw [hc j hj]
  by_cases e : j = r
  · subst e; rw [hself]; decide
  · exact ordSet_no (hb r j hj (by omega))
theorem OneZ.names {z : ZoneV} (h : OneZ z.c) : ∀ x ∈ z.sets.els, nameOK x.set.name = true := fun x hx => by
  refine h.nameMem (s := x.c) ?_
  unfold ZoneV.c
  exact List.mem_map.2 ⟨x, hx, rfl⟩
theorem c_UnderIn (s z : Bytes) (hn : nameOK s = true) (hz : nameOK z = true) {b : Bool} (h : inN s z = b) {H : Hp} {w : World} (hs : Sat H w) : Calls Tryz.prog 56 #[strV s, strV z] w (Ret w (.tuple #[.bool b, intV 0])) := by
  have h1 := name_len60 hn
  have h2 := name_len60 hz
  have := c_Under s z H w hs (by show _ ≤ 9223372036854775807; omega) (by show _ ≤ 9223372036854775807; omega)
  rw [show underC s z = (b, 0) by unfold underC; rw [if_pos ⟨hn, hz⟩, under_in hz, h]] at this
  exact this
theorem c_RV (x : RSet) (h : setOK x.c = true) {H : Hp} {w : World} (hs : Sat H w) (hR : Rules H) (hg : Enc.good H x) : Calls Tryz.prog 26 #[.agg (enc x).toArray] w (Ret w (.bool true)) := h ▸ c_recordValid x H w hs hR hg
set_option maxHeartbeats 4000000 in
theorem c_ordered (z : ZoneV) (h1 : OneZ z.c) {H : Hp} {w : World} (hs : Sat H w) (hR : Rules H) (hz : Enc.good H z) : Calls Tryz.prog 113 #[.agg (enc z).toArray] w (Ret w (.bool true)) := by
  have hg := hz.2
  have hlen := hg.len
  have hlim := hg.lim
  have hv : nameOK z.apex = true := h1.apexOK
  have hst : starN z.apex = false := h1.tame
  have ha60 := name_len60 hv
  have hf : z.sets.len ≤ 20000 := by have := h1.few; rw [setsC_len] at this; omega
  refine T.enter (vs := [.agg (enc z).toArray]) (H := H) Tryz.func113 rfl rfl rfl hs ?_
  repeat (any_goals (first | refine T.seq ?_ | refine T.region ?_ | refine TL.nil ?_ | refine N.next ?_ | refine N.ret_then ?_ | refine T.ret ?_ | refine T.skip ?_ | refine T.block ?_ | (apply T.test; rfl; (exact isx); intro _; rotate_left; intro _; rotate_right) | (apply TL.x; rfl; rfl; (apply X.box (d := 1); rfl; rfl; rfl); intro b1 _) | (apply TL.callE (f := 50) [strV z.apex] Tryz.call50; (iterate 4 rfl); (exact fun _ hs => hv ▸ c_nameValid z.apex _ _ hs.sat hz.1)) | (apply TL.callE (f := 100) [strV z.apex, strV [42]] Tryz.call100; (iterate 4 rfl); (exact fun _ hs => star_take hv hst ▸ c_HasPrefix z.apex [42] _ _ hs.sat hz.1 (by decide))) | (apply TL.val; rfl; rfl; (first | exact vpure | exact vread))))
  all_goals (try contradiction)
  all_goals (try (exfalso; omega))
  refine T.loop (G := Nat) (fun k => [(1, .pointer (some ⟨b1, 0, none⟩)), (28, z.sets.v), (29, intV z.sets.len), (30, intV k)]) (fun _ => H) (fun _ => [.blk b1 177 (enc z)]) (fun k => k ≤ z.sets.len) (fun k => z.sets.len - k) 0 (Nat.zero_le _) (by (repeat (first | exact True.intro | refine ⟨rfl, ?_⟩ | refine Sub.int rfl (by omega) ?_))) rfl (by (repeat (first | exact List.Sublist.refl _ | exact List.nil_sublist _ | apply List.Sublist.cons_cons | apply List.Sublist.cons))) ?_
  intro k hk
  by_cases hlt : k < z.sets.len
  · have hkl : k < z.sets.els.length := by omega
    have hkc : k < z.c.sets.length := by rw [setsC_len]; exact hkl
    have hsg := hg.els _ (List.getElem_mem hkl)
    have hrow := hg.row (k := k) hlt
    obtain ⟨e1, e2, e3⟩ := h1.each k hkc
    rw [setsC_at hkc hkl] at e1 e2 e3
    obtain ⟨x, hx⟩ : ∃ x, z.sets.els[k]'hkl = x := ⟨_, rfl⟩
    rw [hx] at hsg e1 e2 e3
    try rw [hx] at hrow
    have e1 : setOK x.set.c = true := e1
    have e2 : inN x.set.name z.apex = true := e2
    have hxn : nameOK x.set.name = true := setOK_name e1
    cases k with
    | zero =>
      repeat (any_goals (first | refine T.seq ?_ | refine T.region ?_ | refine TL.nil ?_ | refine N.next ?_ | refine N.exit_same ?_ | refine N.exit_then ?_ | refine T.ret ?_ | refine T.skip ?_ | refine T.exit ?_ | refine T.block ?_ | (apply T.cond_true; rfl) | (apply T.cond_false; rfl) | (apply T.test; rfl; (exact isx); intro _; rotate_left; intro _; rotate_right) | (apply TL.val; rfl; rfl; (apply V.elem (j := 0); (iterate 6 rfl); omega; exact hg.at_ (by omega))) | (apply TL.val; rfl; rfl; (apply V.load_H_row; rfl; rfl; rfl; exact hrow; rfl)) | (apply TL.x; rfl; rfl; (apply X.alloc (d := 4); rfl; rfl; rfl); intro b4 _) | (apply TL.x; rfl; rfl; (apply X.storeTo 0 (enc x); (iterate 10 rfl)); intro _ _) | (apply TL.callE (f := 26) [.agg (enc x.set).toArray] Tryz.call26; (iterate 4 rfl); (exact fun _ hs => c_RV x.set e1 hs.sat hR hsg.1)) | (apply TL.callE (f := 56) [strV x.set.name, strV z.apex] Tryz.call56; (iterate 4 rfl); (exact fun _ hs => c_UnderIn x.set.name z.apex hxn hv e2 hs.sat)) | (apply TL.val; rfl; rfl; (first | exact vpure | exact vread))))
      all_goals (try contradiction)
      all_goals (try (exfalso; omega))
      refine N.round 1 (by omega) (by show z.sets.len - 1 < z.sets.len - 0; omega) (by (repeat (first | exact True.intro | refine ⟨rfl, ?_⟩ | refine Sub.int rfl (by omega) ?_))) rfl (by (repeat (first | exact List.Sublist.refl _ | exact List.nil_sublist _ | apply List.Sublist.cons_cons | apply List.Sublist.cons)))
    | succ k =>
      have hkl0 : k < z.sets.els.length := by omega
      have hrow0 := hg.part (k := k) (j := 0) (m := 4) (by omega) (vs := enc (z.sets.els[k]'hkl0).set) rfl
      have e3 := e3 (Nat.succ_pos k)
      simp only [Nat.add_sub_cancel] at e3
      rw [setsC_at (by rw [setsC_len]; exact hkl0) hkl0] at e3
      have hyn0 := h1.names _ (List.getElem_mem hkl0)
      obtain ⟨y, hy⟩ : ∃ y, z.sets.els[k]'hkl0 = y := ⟨_, rfl⟩
      rw [hy] at hrow0 e3 hyn0
      have e3 : ordSet y.set.c x.set.c < 0 := e3
      obtain ⟨o, ho⟩ : ∃ o, cmpN y.set.name y.set.typ x.set.name x.set.typ = o := ⟨_, rfl⟩
      have hlo : o < 0 := by
        rw [← cmpPl_eq hyn0 hxn] at e3
        rw [← ho]; exact e3
      repeat (any_goals (first | refine T.seq ?_ | refine T.region ?_ | refine TL.nil ?_ | refine N.next ?_ | refine N.inBlock ?_ | refine N.exit_same ?_ | refine N.exit_then ?_ | refine N.ret_then ?_ | refine N.ret_block ?_ | refine T.ret ?_ | refine T.skip ?_ | refine T.exit ?_ | refine T.block ?_ | (apply T.cond_false; rfl) | (apply T.test; rfl; (exact isx); intro _; rotate_left; intro _; rotate_right) | (apply TL.val; rfl; rfl; (apply V.elem (j := k + 1); (iterate 6 rfl); omega; exact hg.at_ (by omega))) | (apply TL.val; rfl; rfl; (apply V.load_H_row; rfl; rfl; rfl; exact hrow; rfl)) | (apply TL.x; rfl; rfl; (apply X.alloc (d := 4); rfl; rfl; rfl); intro b4 _) | (apply TL.x; rfl; rfl; (apply X.storeTo 0 (enc x); (iterate 10 rfl)); intro _ _) | (apply TL.callE (f := 26) [.agg (enc x.set).toArray] Tryz.call26; (iterate 4 rfl); (exact fun _ hs => c_RV x.set e1 hs.sat hR hsg.1)) | (apply TL.callE (f := 56) [strV x.set.name, strV z.apex] Tryz.call56; (iterate 4 rfl); (exact fun _ hs => c_UnderIn x.set.name z.apex hxn hv e2 hs.sat)) | (apply TL.val; rfl; rfl; (apply V.elem (j := k); (iterate 5 rfl); omega; omega; exact hg.at_ (by omega))) | (apply TL.val; rfl; rfl; (apply V.load_H_row; rfl; rfl; rfl; exact hrow0; rfl)) | (apply TL.x; rfl; rfl; (apply X.alloc (d := 7); rfl; rfl; rfl); intro b7 _) | (apply TL.x; rfl; rfl; (apply X.storeTo 0 (enc y.set); (iterate 10 rfl)); intro _ _) | (apply TL.callE (f := 151) [strV y.set.name, intV y.set.typ, strV x.set.name, intV x.set.typ] Tryz.call151; (iterate 4 rfl); (exact fun _ hs => ho ▸ c_comparePlaces y.set.name x.set.name y.set.typ x.set.typ hyn0 hxn hs.sat)) | (apply TL.val; rfl; rfl; (first | exact vpure | exact vread))))
      all_goals (try contradiction)
      all_goals (try (exfalso; omega))
      refine N.round (k + 2) (by omega) (by show z.sets.len - (k + 2) < z.sets.len - (k + 1); omega) (by (repeat (first | exact True.intro | refine ⟨rfl, ?_⟩ | refine Sub.int rfl (by omega) ?_))) rfl (by (repeat (first | exact List.Sublist.refl _ | exact List.nil_sublist _ | apply List.Sublist.cons_cons | apply List.Sublist.cons)))
  · repeat (any_goals (first | refine T.seq ?_ | refine T.region ?_ | refine TL.nil ?_ | refine N.next ?_ | refine N.exit_same ?_ | refine N.exit_then ?_ | refine T.ret ?_ | refine T.skip ?_ | refine T.exit ?_ | refine T.block ?_ | (apply T.test; rfl; (exact isx); intro _; rotate_left; intro _; rotate_right) | (apply TL.val; rfl; rfl; (first | exact vpure | exact vread)) | (apply TL.x; rfl; rfl; (first | exact xgrow | exact xput); intro _ _)))
    all_goals (try (exfalso; omega))
    exact N.ret_bool rfl (by (exact rvx)) rfl
end Go.Proofs.YtepljgpikfeklaaGreatDoor
namespace Go.Proofs.YtepljgpikfeklaaGreatDoor
set_option linter.unusedVariables false
set_option linter.unusedSimpArgs false
open Go Go.RowKit
open Enc (enc)
set_option maxRecDepth 20000
set_option maxHeartbeats 4000000 in
theorem c_apexHolds (z : ZoneV) (h1 : OneZ z.c) (h2 : TwoZ z.c) {H : Hp} {w : World} (hs : Sat H w) (hz : Enc.good H z) : Calls Tryz.prog 114 #[.agg (enc z).toArray] w (Ret w (.bool true)) := by
  have hg0 := hz.2
  have hlen := hg0.len
  have hlim := hg0.lim
  have hv : nameOK z.apex = true := h1.apexOK
  have hf : z.sets.len ≤ 20000 := by have := h1.few; rw [setsC_len] at this; omega
  obtain ⟨r4, hr4⟩ := h1.found h2.start
  obtain ⟨r2, hr2⟩ := h1.found h2.server
  refine T.enter (vs := [.agg (enc z).toArray]) (H := H) Tryz.func114 rfl rfl rfl hs ?_
  repeat (any_goals (first | refine T.seq ?_ | refine T.region ?_ | refine TL.nil ?_ | refine N.next ?_ | refine T.block ?_ | (apply TL.x; rfl; rfl; (apply X.box (d := 1); rfl; rfl; rfl); intro b1 _) | (apply TL.x; rfl; rfl; (apply X.buildOnes; (iterate 9 rfl)); intro b9 _; apply TL.frzBlk 0 (els := [(4 : Int), 2]) (m := 2) rfl rfl rfl (by decide) (by intro x hx; simp at hx; rcases hx with rfl | rfl; exact (show I64 4 by decide); exact (show I64 2 by decide)); intro H9 hn9 hle9) | (apply TL.val; rfl; rfl; (first | exact vpure | exact vread))))
  have hg := hg0.mono hle9
  have hz9 := Enc.mono hle9 hz
  refine T.loop (G := Nat) (fun k => [(1, .pointer (some ⟨b1, 0, none⟩)), (9, (⟨some ⟨b9, 0, none⟩, 2, 2, [4, 2]⟩ : Slc Int).v), (10, intV 2), (11, intV k)]) (fun _ => H9) (fun _ => [.blk b1 177 (enc z)]) (fun k => k ≤ 2) (fun k => 2 - k) 0 (Nat.zero_le _) (by (repeat (first | exact True.intro | refine ⟨rfl, ?_⟩ | refine Sub.int rfl (by omega) ?_))) rfl (by (repeat (first | exact List.Sublist.refl _ | exact List.nil_sublist _ | apply List.Sublist.cons_cons | apply List.Sublist.cons))) ?_
  intro k hk
  have hk3 : k = 0 ∨ k = 1 ∨ k = 2 := by omega
  rcases hk3 with rfl | rfl | rfl
  · repeat (any_goals (first | refine T.seq ?_ | refine T.region ?_ | refine TL.nil ?_ | refine N.next ?_ | refine N.inBlock ?_ | refine T.skip ?_ | refine T.block ?_ | (apply T.cond_true; rfl) | (apply T.cond_false; rfl) | (apply TL.val; rfl; rfl; (apply V.elem (j := 0); (iterate 6 rfl); exact (show (0 : Nat) < 2 by decide); rfl)) | (apply TL.val; rfl; rfl; (apply V.load_H; rfl; rfl; rfl; exact hn9.cell (k := 0) (j := 0) (show (0 : Nat) < 2 by decide) (v := intV 4) rfl)) | (apply TL.val; rfl; rfl; (apply V.build; (iterate 6 rfl))) | (apply TL.callE (f := 152) [.agg (enc z).toArray, .agg (enc (⟨z.apex, 4⟩ : Question)).toArray] Tryz.call152; (iterate 4 rfl); (exact fun _ hs => c_findZ z ⟨z.apex, 4⟩ r4 h1.names hv hs.sat hz9 hr4 hf)) | (apply TL.val; rfl; rfl; (first | exact vpure | exact vread))))
    all_goals (try contradiction)
    all_goals (try (exfalso; omega))
    refine N.round 1 (by omega) (by decide) (by (repeat (first | exact True.intro | refine ⟨rfl, ?_⟩ | refine Sub.int rfl (by omega) ?_))) rfl (by (repeat (first | exact List.Sublist.refl _ | exact List.nil_sublist _ | apply List.Sublist.cons_cons | apply List.Sublist.cons)))
  · repeat (any_goals (first | refine T.seq ?_ | refine T.region ?_ | refine TL.nil ?_ | refine N.next ?_ | refine N.inBlock ?_ | refine T.skip ?_ | refine T.block ?_ | (apply T.cond_true; rfl) | (apply T.cond_false; rfl) | (apply TL.val; rfl; rfl; (apply V.elem (j := 1); (iterate 6 rfl); exact (show (1 : Nat) < 2 by decide); rfl)) | (apply TL.val; rfl; rfl; (apply V.load_H; rfl; rfl; rfl; exact hn9.cell (k := 1) (j := 0) (show (1 : Nat) < 2 by decide) (v := intV 2) rfl)) | (apply TL.val; rfl; rfl; (apply V.build; (iterate 6 rfl))) | (apply TL.callE (f := 152) [.agg (enc z).toArray, .agg (enc (⟨z.apex, 2⟩ : Question)).toArray] Tryz.call152; (iterate 4 rfl); (exact fun _ hs => c_findZ z ⟨z.apex, 2⟩ r2 h1.names hv hs.sat hz9 hr2 hf)) | (apply TL.val; rfl; rfl; (first | exact vpure | exact vread))))
    all_goals (try contradiction)
    all_goals (try (exfalso; omega))
    refine N.round 2 (by omega) (by decide) (by (repeat (first | exact True.intro | refine ⟨rfl, ?_⟩ | refine Sub.int rfl (by omega) ?_))) rfl (by (repeat (first | exact List.Sublist.refl _ | exact List.nil_sublist _ | apply List.Sublist.cons_cons | apply List.Sublist.cons)))
  · repeat (any_goals (first | refine T.seq ?_ | refine T.region ?_ | refine TL.nil ?_ | refine N.next ?_ | refine N.exit_same ?_ | refine N.exit_then ?_ | refine T.exit ?_ | refine T.block ?_ | (apply T.cond_false; rfl) | (apply TL.val; rfl; rfl; (first | exact vpure | exact vread))))
    all_goals (try (exfalso; omega))
    refine T.loop (G := Nat) (fun k => [(1, .pointer (some ⟨b1, 0, none⟩)), (30, z.sets.v), (31, intV z.sets.len), (32, intV k)]) (fun _ => H9) (fun _ => [.blk b1 177 (enc z)]) (fun k => k ≤ z.sets.len) (fun k => z.sets.len - k) 0 (Nat.zero_le _) (by (repeat (first | exact True.intro | refine ⟨rfl, ?_⟩ | refine Sub.int rfl (by omega) ?_))) rfl (by (repeat (first | exact List.Sublist.refl _ | exact List.nil_sublist _ | apply List.Sublist.cons_cons | apply List.Sublist.cons))) ?_
    intro k hk
    by_cases hlt : k < z.sets.len
    · have hkl : k < z.sets.els.length := by omega
      have hrow := hg.row (k := k) hlt
      have hpl := h2.placed _ (show (z.sets.els[k]'hkl).c ∈ z.c.sets by unfold ZoneV.c; exact List.mem_map.2 ⟨_, List.getElem_mem hkl, rfl⟩)
      obtain ⟨x, hx⟩ : ∃ x, z.sets.els[k]'hkl = x := ⟨_, rfl⟩
      rw [hx] at hpl
      try rw [hx] at hrow
      have hpl : placedOK x.set.typ (decide (x.set.name = z.apex)) = true := hpl
      repeat (any_goals (first | refine T.seq ?_ | refine T.region ?_ | refine TL.nil ?_ | refine N.next ?_ | refine N.inBlock ?_ | refine N.exit_same ?_ | refine N.exit_then ?_ | refine T.ret ?_ | refine T.skip ?_ | refine T.exit ?_ | refine T.block ?_ | (apply T.cond_false; rfl) | (apply T.test; rfl; (exact isx); intro _; rotate_left; intro _; rotate_right) | (apply TL.val; rfl; rfl; (apply V.elem (j := k); (iterate 6 rfl); omega; exact hg.at_ (by omega))) | (apply TL.val; rfl; rfl; (apply V.load_H_row; rfl; rfl; rfl; exact hrow; rfl)) | (apply TL.x; rfl; rfl; (apply X.alloc (d := 8); rfl; rfl; rfl); intro b8 _) | (apply TL.x; rfl; rfl; (apply X.storeTo 0 (enc x); (iterate 10 rfl)); intro _ _) | (apply TL.callE (f := 153) [intV x.set.typ, .bool (decide (x.set.name = z.apex))] Tryz.call153; (iterate 4 rfl); (exact fun _ hs => hpl ▸ c_fitsApex x.set.typ (decide (x.set.name = z.apex)) hs.sat)) | (apply TL.val; rfl; rfl; (first | exact vpure | exact vread))))
      all_goals (try contradiction)
      all_goals (try (exfalso; omega))
      refine N.round (k + 1) (by omega) (by show z.sets.len - (k + 1) < z.sets.len - k; omega) (by (repeat (first | exact True.intro | refine ⟨rfl, ?_⟩ | refine Sub.int rfl (by omega) ?_))) rfl (by (repeat (first | exact List.Sublist.refl _ | exact List.nil_sublist _ | apply List.Sublist.cons_cons | apply List.Sublist.cons)))
    · repeat (any_goals (first | refine T.seq ?_ | refine T.region ?_ | refine TL.nil ?_ | refine N.next ?_ | refine N.exit_same ?_ | refine N.exit_then ?_ | refine T.ret ?_ | refine T.skip ?_ | refine T.exit ?_ | refine T.block ?_ | (apply T.test; rfl; (exact isx); intro _; rotate_left; intro _; rotate_right) | (apply TL.val; rfl; rfl; (first | exact vpure | exact vread)) | (apply TL.x; rfl; rfl; (first | exact xgrow | exact xput); intro _ _)))
      all_goals (try (exfalso; omega))
      exact N.ret_bool rfl (by (exact rvx)) rfl
end Go.Proofs.YtepljgpikfeklaaGreatDoor
namespace Go.Proofs.YtepljgpikfeklaaGreatDoor
set_option linter.unusedVariables false
set_option linter.unusedSimpArgs false
open Go Go.RowKit
set_option maxRecDepth 20000
section
variable {κ : Type} {un : κ → κ → Bool} {cuts : κ → Bool}
def stepO (un : κ → κ → Bool) (cuts : κ → Bool) (c : Option κ) (n : κ) : Option κ :=
  match (match c with | some x => if un n x then some x else none | none => none) with
  | some x => some x
  | none => if cuts n then some n else none
theorem layO_cons (c : Option κ) (n : κ) (r : List κ) : layO un cuts c (n :: r) = stepO un cuts c n :: layO un cuts (stepO un cuts c n) r := rfl
theorem layO_at : ∀ (l : List κ) (c : Option κ) (i : Nat) (h : i < l.length), (layO un cuts c l)[i]? = some (stepO un cuts ((if i = 0 then some c else (layO un cuts c l)[i - 1]?).getD none) l[i])
  | [], _, _, h => by simp at h
  | n :: r, c, 0, _ => by rw [layO_cons]; rfl
  | n :: r, c, i + 1, h => by
    have ih := layO_at r (stepO un cuts c n) i (by simpa using h)
    rw [layO_cons, List.getElem?_cons_succ, ih, if_neg (Nat.succ_ne_zero i), Nat.add_sub_cancel]
    cases i with
    | zero => rfl
    | succ i => rw [if_neg (Nat.succ_ne_zero i), List.getElem?_cons_succ]; rfl
theorem layO_mem : ∀ (l : List κ) (c : Option κ) (x : κ), some x ∈ layO un cuts c l → c = some x ∨ x ∈ l
  | [], _, _, h => by simp [layO] at h
  | n :: r, c, x, h => by
    rw [layO_cons] at h
    have hs : ∀ x, stepO un cuts c n = some x → c = some x ∨ x = n := fun x h => by
      unfold stepO at h
      cases c with
      | none =>
        simp only at h
        split at h
        · injection h with h; exact .inr h.symm
        · cases h
      | some y =>
        simp only at h
        by_cases hu : un n y = true
        · rw [if_pos hu] at h; exact .inl h
        · rw [if_neg hu] at h
          simp only at h
          split at h
          · injection h with h; exact .inr h.symm
          · cases h
    rcases List.mem_cons.1 h with h | h
    · rcases hs x h.symm with h | h
      · exact .inl h
      · exact .inr (h ▸ List.mem_cons_self ..)
    · rcases layO_mem r _ x h with h | h
      · rcases hs x h with h | h
        · exact .inl h
        · exact .inr (h ▸ List.mem_cons_self ..)
      · exact .inr (List.mem_cons_of_mem _ h)
end
def prevT (B : List Bytes) (i : Nat) : Bytes := if i = 0 then [] else B.getD (i - 1) []
def keepT (c n : Bytes) : Bytes := if c ≠ [] ∧ inN n c = true then c else []
def stepT (z : ZoneC) (c n : Bytes) : Bytes := if keepT c n = [] then (if isCut z n = true then n else []) else keepT c n
theorem stepO_T {z : ZoneC} {o : Option Bytes} {n : Bytes} (ho : o ≠ some []) : (stepO inN (isCut z) o n).getD [] = stepT z (o.getD []) n := by
  unfold stepO stepT keepT
  cases o with
  | none => simp; split <;> rfl
  | some c =>
    have hc : c ≠ [] := fun e => ho (by rw [e])
    simp only [Option.getD_some]
    by_cases hu : inN n c = true
    · simp [hu, hc]
    · simp [hu]
      split <;> rfl
theorem behZ_name {z : ZoneC} (hO : OneZ z) {x : Bytes} (h : some x ∈ behZ z) : nameOK x = true := by
  unfold behZ at h
  rcases layO_mem _ _ _ h with h | h
  · cases h
  · unfold namesZ at h
    obtain ⟨s, hs, rfl⟩ := List.mem_map.1 h
    exact hO.nameMem hs
theorem behT_get {l : List (Option Bytes)} (i : Nat) : (behT l)[i]?.getD [] = (l[i]?.getD none).getD [] := by
  unfold behT
  rw [List.getElem?_map]
  cases l[i]? <;> rfl
theorem lay_prev {z : ZoneC} (hO : OneZ z) (i : Nat) : prevT (behT (behRZ z)) i = [] ∨ nameOK (prevT (behT (behRZ z)) i) = true := by
  unfold prevT
  split
  · exact .inl rfl
  · rw [List.getD_eq_getElem?_getD, behT_get, beh_eq hO]
    cases h : (behZ z)[i - 1]? with
    | none => exact .inl rfl
    | some o =>
      cases o with
      | none => exact .inl rfl
      | some x => exact .inr (behZ_name hO (List.mem_of_getElem? h))
theorem lay_step {z : ZoneC} (hO : OneZ z) {i : Nat} (hi : i < (namesZ z).length) : (behT (behRZ z))[i]? = some (stepT z (prevT (behT (behRZ z)) i) (namesZ z)[i]) := by
  have hp : prevT (behT (behRZ z)) i = (((if i = 0 then some (none : Option Bytes) else (behZ z)[i - 1]?).getD none).getD []) := by
    unfold prevT
    split
    · rfl
    · rw [List.getD_eq_getElem?_getD, behT_get, beh_eq hO]
  rw [hp, ← stepO_T]
  · rw [beh_eq hO]
    unfold behT
    rw [List.getElem?_map]
    have h := layO_at (un := inN) (cuts := isCut z) (namesZ z) none i hi
    show Option.map _ (behZ z)[i]? = _
    unfold behZ at *
    rw [h]; rfl
  · intro h
    split at h
    · cases h
    · cases h' : (behZ z)[i - 1]? with
      | none => rw [h'] at h; cases h
      | some o =>
        rw [h'] at h
        simp only [Option.getD_some] at h
        subst h
        exact name_ne (behZ_name hO (List.mem_of_getElem? h')) rfl
end Go.Proofs.YtepljgpikfeklaaGreatDoor
