import Derived.Test.YthabgdbhgcgemaaGreatDoorQWM
namespace Go.Proofs.YthabgdbhgcgemaaGreatDoor
set_option linter.unusedVariables false
set_option linter.unusedSimpArgs false
open Go Go.RowKit
open Enc (enc)
set_option maxRecDepth 20000
theorem cmpQQ_self (q : Question) : cmpQQ q q = 0 := by
  unfold cmpQQ cmpN
  rw [if_pos rfl]
  exact cmpI_zero.2 rfl
theorem ordQ_nodup {l : List Question} (h : l.Pairwise fun p q => cmpQQ p q < 0) : l.Nodup := by
  unfold List.Nodup
  exact h.imp fun {a b} hab e => by rw [e, cmpQQ_self] at hab; exact absurd hab (by decide)
def FormV (d : DeltaV) : Prop := FormD d.apex d.frm d.to d.drop.els (d.put.els.map Signed.c)
theorem form_of {a b : ZoneC} (ha : ZonedR a) (hb : ZonedR b) (h : beforeS (serialC a) (serialC b) = true) {d : DeltaV} (hd : DeltaOK a b d) : FormV d := by
  unfold FormV
  rw [hd.apex, hd.frm, hd.to, hd.drop, hd.put]
  exact formD_of ha hb h
section
variable {H : Hp} {w : World}
set_option maxHeartbeats 8000000 in
theorem c_dinForm (d : DeltaV) (hf : FormV d) (hs : Sat H w) (hR : Rules H) (hg : Enc.good H d) : Calls Tryz.prog 112 #[.agg (enc d).toArray] w (Ret w (.bool true)) := by
  obtain ⟨f1, f2, f3, f4, f5, f6, f7, f8, f9, f10, f11, f12⟩ := hf
  obtain ⟨g1, g2, g3, g4, g5⟩ := hg
  have dlen := g4.len
  have plen := g5.len
  rw [List.length_map] at f7
  have ha60 := name_len60 f1
  have hnd := ordQ_nodup f9
  refine T.enter (vs := [.agg (enc d).toArray]) (H := H) Tryz.func112 rfl rfl rfl hs ?_
  repeat (any_goals (first | refine T.seq ?_ | refine T.region ?_ | refine TL.nil ?_ | refine N.next ?_ | refine N.ret_then ?_ | refine T.ret ?_ | refine T.skip ?_ | refine T.block ?_ | (apply T.cond_true; rfl) | (apply T.cond_false; rfl) | (apply T.test; rfl; (exact isx); intro _; rotate_left; intro _; rotate_right) | (apply TL.skip; rfl; rfl; rfl) | (apply TL.x; rfl; rfl; (apply X.box (d := 1) (cs := enc d); rfl; rfl; rfl); intro b1 _) | (apply TL.callE (f := 127) [strV d.apex] Tryz.call127; (iterate 4 rfl); (exact fun _ hs => f1 ▸ c_nameValid d.apex _ _ hs.sat g1)) | (apply TL.callE (f := 128) [strV d.apex, strV [42]] Tryz.call128; (iterate 4 rfl); (exact fun _ hs => star_take f1 f2 ▸ c_HasPrefix d.apex [42] _ _ hs.sat g1 (by decide))) | (apply TL.callE (f := 80) [intV d.frm] Tryz.call80; (iterate 4 rfl); (exact fun _ hs => c_dvalidSerial d.frm f3 hs.sat)) | (apply TL.callE (f := 80) [intV d.to] Tryz.call80; (iterate 4 rfl); (exact fun _ hs => c_dvalidSerial d.to f4 hs.sat)) | (apply TL.callE (f := 81) [intV d.frm, intV d.to] Tryz.call81; (iterate 4 rfl); (exact fun _ hs => f5 ▸ c_dless d.frm d.to f3 f4 hs.sat)) | (apply TL.x; rfl; rfl; (apply X.makeMapN (d := 48) qV; (iterate 4 rfl)); intro bm _) | (apply TL.val; rfl; rfl; (first | exact vpure | exact vread)) | (apply TL.guard; rfl; rfl; rfl; (exact isx); intro _; rotate_left; intro _; rotate_right)))
  all_goals (try contradiction)
  all_goals (try (exfalso; omega))
  refine T.loop (G := Nat) (fun k => [(1, .pointer (some ⟨b1, 0, none⟩)), (3, .map (some bm)), (50, d.drop.v), (51, intV d.drop.len), (52, intV k)]) (fun _ => H) (fun k => [.any bm (mObj qV ((d.drop.els.take k).map fun q => (q, Value.bool true))), .blk b1 122 (enc d)]) (fun k => k ≤ d.drop.len) (fun k => d.drop.len - k) 0 (Nat.zero_le _) (by (repeat (first | exact True.intro | refine ⟨rfl, ?_⟩ | refine Sub.int rfl (by omega) ?_))) rfl (by (repeat (first | exact List.Sublist.refl _ | exact List.nil_sublist _ | apply List.Sublist.cons_cons | apply List.Sublist.cons))) ?_
  intro k hk
  by_cases hlt : k < d.drop.len
  · have hkl : k < d.drop.els.length := by omega
    have hrow := g4.row (k := k) hlt
    obtain ⟨q1, q2, q3⟩ := f8 _ (List.getElem_mem hkl)
    have hqg := g4.els _ (List.getElem_mem hkl)
    have hnew : d.drop.els[k] ∉ d.drop.els.take k := fun hm => by
      obtain ⟨j, hj, e⟩ := List.mem_take_iff_getElem.1 hm
      exact List.pairwise_iff_getElem.1 hnd j k (by omega) hkl (by omega) e
    have hup : d.drop.els.take (k + 1) = d.drop.els.take k ++ [d.drop.els[k]] := List.take_succ_eq_append_getElem hkl
    have hord : ∀ h0 : 0 < k, cmpQQ (d.drop.els[k - 1]'(by omega)) d.drop.els[k] < 0 := fun h0 => List.pairwise_iff_getElem.1 f9 (k - 1) k (by omega) hkl (by omega)
    obtain ⟨x, hx⟩ : ∃ x, d.drop.els[k]'hkl = x := ⟨_, rfl⟩
    rw [hx] at hnew hup q1 q2 q3 hqg
    simp only [hx] at hord
    try rw [hx] at hrow
    obtain ⟨es, hes⟩ : ∃ es, d.drop.els.take k = es := ⟨_, rfl⟩
    rw [hes] at hnew hup ⊢
    cases k with
    | zero =>
      repeat (any_goals (first | refine T.seq ?_ | refine T.region ?_ | (apply T.regionD wide; rfl) | refine TL.nil ?_ | refine N.next ?_ | refine N.inBlock ?_ | refine N.exit_same ?_ | refine N.exit_then ?_ | refine N.ret_then ?_ | refine N.ret_block ?_ | refine T.ret ?_ | refine T.skip ?_ | refine T.exit ?_ | refine T.block ?_ | (apply T.cond_true; rfl) | (apply T.cond_false; rfl) | (apply T.test; rfl; (exact isx); intro _; rotate_left; intro _; rotate_right) | (apply TL.skip; rfl; rfl; rfl) | (apply GT.skip; rfl; rfl; rfl; decide +kernel) | (apply TL.val; rfl; rfl; (apply V.elem (j := 0); (iterate 6 rfl); omega; exact g4.at_ (by omega))) | (apply TL.val; rfl; rfl; (apply V.load_H_row; rfl; rfl; rfl; exact hrow; rfl)) | (apply TL.x; rfl; rfl; (apply X.alloc (d := 5); rfl; rfl; rfl); intro b5 _) | (apply TL.x; rfl; rfl; (apply X.storeTo 0 (enc x); (iterate 10 rfl)); intro _ _) | (apply TL.callE (f := 127) [strV x.name] Tryz.call127; (iterate 4 rfl); (exact fun _ hs => q1 ▸ c_nameValid x.name _ _ hs.sat hqg.1)) | (apply TL.x; rfl; rfl; (apply X.mputG 1 x; rfl; rfl; exact key_q; (iterate 4 rfl); exact mput_toD (aPut_set hnew) rfl); intro _ _) | (apply TL.val; rfl; rfl; (first | exact vpure | exact vread)) | (apply GT.pure; (iterate 4 rfl); (first | exact vpure); decide +kernel) | (apply GT.done; decide +kernel; apply N.ofQ) | (apply TL.guard; rfl; rfl; rfl; (exact isx); intro _; rotate_left; intro _; rotate_right)))
      all_goals (try contradiction)
      all_goals (try (exfalso; omega))
      refine N.round 1 (by omega) (by show d.drop.len - 1 < d.drop.len - 0; omega) (by (repeat (first | exact True.intro | refine ⟨rfl, ?_⟩ | refine Sub.int rfl (by omega) ?_))) rfl ?_
      rw [hup]
      (repeat (first | exact List.Sublist.refl _ | exact List.nil_sublist _ | apply List.Sublist.cons_cons | apply List.Sublist.cons))
    | succ k =>
      have hkl0 : k < d.drop.els.length := by omega
      have hrow0 := g4.row (k := k) (by omega)
      have hord := hord (Nat.succ_pos k)
      simp only [Nat.add_sub_cancel] at hord
      have p1 := (f8 _ (List.getElem_mem hkl0)).1
      obtain ⟨y, hy⟩ : ∃ y, d.drop.els[k]'hkl0 = y := ⟨_, rfl⟩
      rw [hy] at hord p1
      try rw [hy] at hrow0
      obtain ⟨o, ho⟩ : ∃ o, cmpQQ y x = o := ⟨_, rfl⟩
      rw [ho] at hord
      repeat (any_goals (first | refine T.seq ?_ | refine T.region ?_ | (apply T.regionD wide; rfl) | refine TL.nil ?_ | refine N.next ?_ | refine N.inBlock ?_ | refine N.exit_same ?_ | refine N.exit_then ?_ | refine N.ret_then ?_ | refine N.ret_block ?_ | refine T.ret ?_ | refine T.skip ?_ | refine T.exit ?_ | refine T.block ?_ | (apply T.cond_true; rfl) | (apply T.cond_false; rfl) | (apply T.test; rfl; (exact isx); intro _; rotate_left; intro _; rotate_right) | (apply TL.skip; rfl; rfl; rfl) | (apply GT.skip; rfl; rfl; rfl; decide +kernel) | (apply TL.val; rfl; rfl; (apply V.elem (j := k + 1); (iterate 6 rfl); omega; exact g4.at_ (by omega))) | (apply TL.val; rfl; rfl; (apply V.load_H_row; rfl; rfl; rfl; exact hrow; rfl)) | (apply TL.x; rfl; rfl; (apply X.alloc (d := 5); rfl; rfl; rfl); intro b5 _) | (apply TL.x; rfl; rfl; (apply X.storeTo 0 (enc x); (iterate 10 rfl)); intro _ _) | (apply TL.callE (f := 127) [strV x.name] Tryz.call127; (iterate 4 rfl); (exact fun _ hs => q1 ▸ c_nameValid x.name _ _ hs.sat hqg.1)) | (apply GT.pure; (iterate 4 rfl); (apply V.elem (j := k); (iterate 5 rfl); omega; omega; exact g4.at_ (by omega)); decide +kernel) | (apply GT.read; (iterate 4 rfl); (apply V.load_H_row; rfl; rfl; rfl; exact hrow0; rfl); decide +kernel) | (apply GT.callE (f := 138) [qV y, qV x] Tryz.call138; (iterate 6 rfl); (exact fun _ hs => c_dcomparePlaces y x p1 q1 ho hs.sat); decide +kernel) | (apply TL.x; rfl; rfl; (apply X.mputG 1 x; rfl; rfl; exact key_q; (iterate 4 rfl); exact mput_toD (aPut_set hnew) rfl); intro _ _) | (apply TL.val; rfl; rfl; (first | exact vpure | exact vread)) | (apply GT.pure; (iterate 4 rfl); (first | exact vpure); decide +kernel) | (apply GT.read; (iterate 4 rfl); (first | exact vpure | exact vread); decide +kernel) | (apply GT.done; decide +kernel; apply N.ofQ) | (apply TL.guard; rfl; rfl; rfl; (exact isx); intro _; rotate_left; intro _; rotate_right) | (apply GT.guard; (iterate 4 rfl); (exact isx); intro _; rotate_left; intro _; rotate_right)))
      all_goals (try contradiction)
      all_goals (try (exfalso; omega))
      refine N.round (k + 2) (by omega) (by show d.drop.len - (k + 2) < d.drop.len - (k + 1); omega) (by (repeat (first | exact True.intro | refine ⟨rfl, ?_⟩ | refine Sub.int rfl (by omega) ?_))) rfl ?_
      rw [hup]
      (repeat (first | exact List.Sublist.refl _ | exact List.nil_sublist _ | apply List.Sublist.cons_cons | apply List.Sublist.cons))
  · have hke : k = d.drop.len := by omega
    subst hke
    rw [List.take_of_length_le (by omega)]
    repeat (any_goals (first | refine T.seq ?_ | refine T.region ?_ | refine TL.nil ?_ | refine N.next ?_ | refine N.exit_same ?_ | refine N.exit_then ?_ | refine T.skip ?_ | refine T.exit ?_ | refine T.block ?_ | (apply T.test; rfl; (exact isx); intro _; rotate_left; intro _; rotate_right) | (apply TL.val; rfl; rfl; (first | exact vpure | exact vread)) | (apply TL.x; rfl; rfl; (first | exact xgrow | exact xput); intro _ _)))
    all_goals (try (exfalso; omega))
    refine T.loop (G := Nat) (fun k => [(1, .pointer (some ⟨b1, 0, none⟩)), (3, .map (some bm)), (88, d.put.v), (89, intV d.put.len), (90, intV k)]) (fun _ => H) (fun _ => [.any bm (mObj qV (d.drop.els.map fun q => (q, Value.bool true))), .blk b1 122 (enc d)]) (fun k => k ≤ d.put.len) (fun k => d.put.len - k) 0 (Nat.zero_le _) (by (repeat (first | exact True.intro | refine ⟨rfl, ?_⟩ | refine Sub.int rfl (by omega) ?_))) rfl (by (repeat (first | exact List.Sublist.refl _ | exact List.nil_sublist _ | apply List.Sublist.cons_cons | apply List.Sublist.cons))) ?_
    intro k hk
    by_cases hlt : k < d.put.len
    · have hkl : k < d.put.els.length := by omega
      have hrow := g5.row (k := k) hlt
      have hset := f10 _ (List.mem_map.2 ⟨_, List.getElem_mem hkl, rfl⟩)
      have hapart : placeV d.put.els[k] ∉ d.drop.els := f12 _ (List.mem_map.2 ⟨_, List.getElem_mem hkl, rfl⟩)
      have hqg := g5.els _ (List.getElem_mem hkl)
      have hord : ∀ h0 : 0 < k, cmpQQ (placeV (d.put.els[k - 1]'(by omega))) (placeV d.put.els[k]) < 0 := fun h0 => by
        rw [List.map_map, List.pairwise_map] at f11
        exact List.pairwise_iff_getElem.1 f11 (k - 1) k (by omega) hkl (by omega)
      obtain ⟨x, hx⟩ : ∃ x, d.put.els[k]'hkl = x := ⟨_, rfl⟩
      rw [hx] at hset hapart hqg
      simp only [hx] at hord
      try rw [hx] at hrow
      have hset : setOK x.set.c = true := hset
      have hxn : nameOK x.set.name = true := setOK_name hset
      have hget : (aGet (placeV x) (d.drop.els.map fun q => (q, Value.bool true))).getD (.bool false) = .bool false := (aGet_set (placeV x) d.drop.els).trans (congrArg Value.bool ((decide_eq_decide.2 Iff.rfl).trans (decide_eq_false hapart)))
      cases k with
      | zero =>
        repeat (any_goals (first | refine T.seq ?_ | refine T.region ?_ | (apply T.regionD wide; rfl) | refine TL.nil ?_ | refine N.next ?_ | refine N.inBlock ?_ | refine N.exit_same ?_ | refine N.exit_then ?_ | refine T.ret ?_ | refine T.skip ?_ | refine T.exit ?_ | refine T.block ?_ | (apply T.cond_false; rfl) | (apply T.test; rfl; (exact isx); intro _; rotate_left; intro _; rotate_right) | (apply GT.skip; rfl; rfl; rfl; decide +kernel) | (apply TL.val; rfl; rfl; (apply V.elem (j := 0); (iterate 6 rfl); omega; exact g5.at_ (by omega))) | (apply TL.val; rfl; rfl; (apply V.load_H_row; rfl; rfl; rfl; exact hrow; rfl)) | (apply TL.x; rfl; rfl; (apply X.alloc (d := 7); rfl; rfl; rfl); intro b7 _) | (apply TL.x; rfl; rfl; (apply X.storeTo 0 (enc x); (iterate 10 rfl)); intro _ _) | (apply TL.callE (f := 129) [.agg (enc x.set).toArray] Tryz.call129; (iterate 4 rfl); (exact fun _ hs => c_RV x.set hset hs.sat hR hqg.1)) | (apply TL.callE (f := 105) [sgV x] Tryz.call105; (iterate 4 rfl); (exact fun _ hs => c_dplace x hs.sat)) | (apply TL.val; rfl; rfl; (apply V.mlookupG (mk := qV) (placeV x); rfl; rfl; rfl; exact key_q; rfl; rfl; (exact lmem); exact hget)) | (apply TL.val; rfl; rfl; (first | exact vpure | exact vread)) | (apply GT.pure; (iterate 4 rfl); (first | exact vpure); decide +kernel) | (apply GT.done; decide +kernel; apply N.ofQ)))
        all_goals (try contradiction)
        all_goals (try (exfalso; omega))
        refine N.round 1 (by omega) (by show d.put.len - 1 < d.put.len - 0; omega) (by (repeat (first | exact True.intro | refine ⟨rfl, ?_⟩ | refine Sub.int rfl (by omega) ?_))) rfl (by (repeat (first | exact List.Sublist.refl _ | exact List.nil_sublist _ | apply List.Sublist.cons_cons | apply List.Sublist.cons)))
      | succ k =>
        have hkl0 : k < d.put.els.length := by omega
        have hrow0 := g5.row (k := k) (by omega)
        have hord := hord (Nat.succ_pos k)
        simp only [Nat.add_sub_cancel] at hord
        have hset0 := f10 _ (List.mem_map.2 ⟨_, List.getElem_mem hkl0, rfl⟩)
        obtain ⟨y, hy⟩ : ∃ y, d.put.els[k]'hkl0 = y := ⟨_, rfl⟩
        rw [hy] at hord hset0
        try rw [hy] at hrow0
        have hset0 : setOK y.set.c = true := hset0
        have hyn : nameOK y.set.name = true := setOK_name hset0
        obtain ⟨o, ho⟩ : ∃ o, cmpQQ (placeV y) (placeV x) = o := ⟨_, rfl⟩
        rw [ho] at hord
        repeat (any_goals (first | refine T.seq ?_ | refine T.region ?_ | (apply T.regionD wide; rfl) | refine TL.nil ?_ | refine N.next ?_ | refine N.inBlock ?_ | refine N.exit_same ?_ | refine N.exit_then ?_ | refine N.ret_then ?_ | refine N.ret_block ?_ | refine T.ret ?_ | refine T.skip ?_ | refine T.exit ?_ | refine T.block ?_ | (apply T.cond_false; rfl) | (apply T.test; rfl; (exact isx); intro _; rotate_left; intro _; rotate_right) | (apply GT.skip; rfl; rfl; rfl; decide +kernel) | (apply TL.val; rfl; rfl; (apply V.elem (j := k + 1); (iterate 6 rfl); omega; exact g5.at_ (by omega))) | (apply TL.val; rfl; rfl; (apply V.load_H_row; rfl; rfl; rfl; exact hrow; rfl)) | (apply TL.x; rfl; rfl; (apply X.alloc (d := 7); rfl; rfl; rfl); intro b7 _) | (apply TL.x; rfl; rfl; (apply X.storeTo 0 (enc x); (iterate 10 rfl)); intro _ _) | (apply TL.callE (f := 129) [.agg (enc x.set).toArray] Tryz.call129; (iterate 4 rfl); (exact fun _ hs => c_RV x.set hset hs.sat hR hqg.1)) | (apply TL.callE (f := 105) [sgV x] Tryz.call105; (iterate 4 rfl); (exact fun _ hs => c_dplace x hs.sat)) | (apply GT.callE (f := 105) [sgV x] Tryz.call105; (iterate 6 rfl); (exact fun _ hs => c_dplace x hs.sat); decide +kernel) | (apply TL.val; rfl; rfl; (apply V.mlookupG (mk := qV) (placeV x); rfl; rfl; rfl; exact key_q; rfl; rfl; (exact lmem); exact hget)) | (apply GT.pure; (iterate 4 rfl); (apply V.elem (j := k); (iterate 5 rfl); omega; omega; exact g5.at_ (by omega)); decide +kernel) | (apply GT.read; (iterate 4 rfl); (apply V.load_H_row; rfl; rfl; rfl; exact hrow0; rfl); decide +kernel) | (apply GT.callE (f := 105) [sgV y] Tryz.call105; (iterate 6 rfl); (exact fun _ hs => c_dplace y hs.sat); decide +kernel) | (apply GT.callE (f := 138) [qV (placeV y), qV (placeV x)] Tryz.call138; (iterate 6 rfl); (exact fun _ hs => c_dcomparePlaces (placeV y) (placeV x) hyn hxn ho hs.sat); decide +kernel) | (apply TL.val; rfl; rfl; (first | exact vpure | exact vread)) | (apply GT.pure; (iterate 4 rfl); (first | exact vpure); decide +kernel) | (apply GT.read; (iterate 4 rfl); (first | exact vpure | exact vread); decide +kernel) | (apply GT.done; decide +kernel; apply N.ofQ) | (apply GT.guard; (iterate 4 rfl); (exact isx); intro _; rotate_left; intro _; rotate_right)))
        all_goals (try contradiction)
        all_goals (try (exfalso; omega))
        refine N.round (k + 2) (by omega) (by show d.put.len - (k + 2) < d.put.len - (k + 1); omega) (by (repeat (first | exact True.intro | refine ⟨rfl, ?_⟩ | refine Sub.int rfl (by omega) ?_))) rfl (by (repeat (first | exact List.Sublist.refl _ | exact List.nil_sublist _ | apply List.Sublist.cons_cons | apply List.Sublist.cons)))
    · repeat (any_goals (first | refine T.seq ?_ | refine T.region ?_ | refine TL.nil ?_ | refine N.next ?_ | refine N.exit_same ?_ | refine N.exit_then ?_ | refine T.ret ?_ | refine T.skip ?_ | refine T.exit ?_ | refine T.block ?_ | (apply T.test; rfl; (exact isx); intro _; rotate_left; intro _; rotate_right) | (apply TL.val; rfl; rfl; (first | exact vpure | exact vread)) | (apply TL.x; rfl; rfl; (first | exact xgrow | exact xput); intro _ _)))
      all_goals (try (exfalso; omega))
      exact N.ret_bool rfl (by (exact rvx)) rfl
theorem c_dJoinSelf (d : DeltaV) (hf : FormV d) (hs : Sat H w) (hR : Rules H) (hg : Enc.good H d) : Calls Tryz.prog 136 #[.agg (enc d).toArray, .agg (enc d).toArray] w (Ret w (.tuple #[.agg (enc (⟨[], 0, 0, Slc.nil _, Slc.nil _⟩ : DeltaV)).toArray, intV 23])) := by
  have hne := beforeS_ne hf.before
  refine T.enter (vs := [.agg (enc d).toArray, .agg (enc d).toArray]) (H := H) Tryz.func136 rfl rfl rfl hs ?_
  repeat (any_goals (first | refine T.seq ?_ | refine T.region ?_ | refine TL.nil ?_ | refine N.next ?_ | refine N.ret_then ?_ | refine T.ret ?_ | refine T.skip ?_ | (apply T.cond_true; rfl) | (apply T.test; rfl; (exact isx); intro _; rotate_left; intro _; rotate_right) | (apply TL.skip; rfl; rfl; rfl) | (apply TL.x; rfl; rfl; (apply X.box (d := 2) (cs := enc d); rfl; rfl; rfl); intro b2 _) | (apply TL.x; rfl; rfl; (apply X.box (d := 3) (cs := enc d); rfl; rfl; rfl); intro b3 _) | (apply TL.x; rfl; rfl; (apply X.alloc (d := 4); rfl; rfl; rfl); intro b4 _) | (apply TL.callE (f := 112) [.agg (enc d).toArray] Tryz.call112; (iterate 4 rfl); (exact fun _ hs => c_dinForm d hf hs.sat hR hg)) | (apply TL.val; rfl; rfl; (apply V.neqT (Ne.symm hne); rfl; rfl)) | (apply TL.val; rfl; rfl; (apply V.build; (iterate 6 rfl))) | (apply TL.x; rfl; rfl; (apply X.storeTo 0 (enc (⟨[], 0, 0, Slc.nil _, Slc.nil _⟩ : DeltaV)); (iterate 10 rfl)); intro _ _) | (apply TL.val; rfl; rfl; (first | exact vpure | exact vread))))
  all_goals (try contradiction)
  all_goals exact N.ret_two rfl (by (exact rvx)) (by (exact rvx)) rfl
theorem c_tinForm (d : DeltaV) (hf : FormV d) (hs : Sat H w) (hR : Rules H) (hg : Enc.good H d) : Calls Tryz.prog 110 #[.agg (enc d).toArray] w (Ret w (.bool true)) := by
  refine T.enter (vs := [.agg (enc d).toArray]) (H := H) Tryz.func110 rfl rfl rfl hs ?_
  repeat (any_goals (first | refine T.seq ?_ | refine T.region ?_ | refine TL.nil ?_ | refine N.next ?_ | refine T.ret ?_ | (apply TL.x; rfl; rfl; (apply X.box (d := 1) (cs := enc d); rfl; rfl; rfl); intro b1 _) | (apply TL.callE (f := 136) [.agg (enc d).toArray, .agg (enc d).toArray] Tryz.call136; (iterate 4 rfl); (exact fun _ hs => c_dJoinSelf d hf hs.sat hR hg)) | (apply TL.x; rfl; rfl; (apply X.alloc (d := 3); rfl; rfl; rfl); intro b3 _) | (apply TL.x; rfl; rfl; (apply X.storeTo 0 (enc (⟨[], 0, 0, Slc.nil _, Slc.nil _⟩ : DeltaV)); (iterate 10 rfl)); intro _ _) | (apply TL.val; rfl; rfl; (first | exact vpure | exact vread))))
  all_goals (try contradiction)
  all_goals exact N.ret_bool rfl (by (exact rvx)) rfl
end
end Go.Proofs.YthabgdbhgcgemaaGreatDoor
