import Derived.Test.YthabgdbhgcgemaaGreatDoorQBN
namespace Go.Proofs.YthabgdbhgcgemaaGreatDoor
set_option linter.unusedVariables false
set_option linter.unusedSimpArgs false
open Go Go.RowKit
open Enc (enc)
set_option maxRecDepth 20000
theorem nodup_inj {α : Type} {l : List α} (h : l.Nodup) {i j : Nat} (hi : i < l.length) (hj : j < l.length) (e : l[i] = l[j]) : i = j := by
  rcases Nat.lt_trichotomy i j with h1 | h1 | h1
  · exact absurd e (List.pairwise_iff_getElem.1 h i j hi hj h1)
  · exact h1
  · exact absurd e.symm (List.pairwise_iff_getElem.1 h j i hj hi h1)
structure ChainOK (l : List ZoneV) (k : Nat) (ds : List DeltaV) : Prop where
  len : k + ds.length + 1 ≤ l.length
  each : ∀ i (h : i < ds.length) (h1 : k + i < l.length) (h2 : k + i + 1 < l.length), DeltaOK l[k + i].c l[k + i + 1].c ds[i]
theorem chain_snoc {l : List ZoneV} {k : Nat} {ds : List DeltaV} (h : ChainOK l k ds) {i : Nat} (hi : i = k + ds.length) (h2 : i + 1 < l.length) {d : DeltaV} (hd : DeltaOK (l[i]'(by omega)).c l[i + 1].c d) : ChainOK l k (ds ++ [d]) where
  len := by rw [List.length_append, List.length_cons, List.length_nil]; omega
  each j hj h3 h4 := by
    rw [List.length_append, List.length_cons, List.length_nil] at hj
    by_cases e : j < ds.length
    · rw [List.getElem_append_left e]
      exact h.each j e h3 h4
    · have : j = ds.length := by omega
      subst this hi
      rw [List.getElem_append_right (Nat.le_refl _)]
      simpa using hd
section
variable {H : Hp} {w : World}
set_option maxHeartbeats 2000000 in
theorem c_offerFull (l : Slc ZoneV) (bl : Nat) (hz : ZonesOK l.els) (h0 : 0 < l.len) (hs : Sat H w) (hb : H.cells bl 0 [l.v]) (hg : l.Good H) : Calls Tryz.prog 58 #[intV (-1), .pointer (some ⟨bl, 0, none⟩)] w (RetF w H (fun p : Hp × ZoneV => (∃ h : l.len - 1 < l.els.length, p.2.c = l.els[l.len - 1].c) ∧ Enc.good p.1 p.2) (fun p => .agg (enc (⟨true, p.2, Slc.nil _⟩ : OfferV)).toArray) (fun p => p.1)) := by
  have hlen := hg.len
  have hlim := hg.lim
  have hkl : l.len - 1 < l.els.length := by omega
  have hrow := hg.row (k := l.len - 1) (by omega)
  have hxg := hg.els _ (List.getElem_mem hkl)
  have hxz := hz.each _ (List.getElem_mem hkl)
  obtain ⟨x, hx⟩ : ∃ x, l.els[l.len - 1]'hkl = x := ⟨_, rfl⟩
  rw [hx] at hxg hxz
  try rw [hx] at hrow
  have hxl : x.sets.len ≤ 20000 := by have := hxz.one.few; rw [setsC_len] at this; have := hxg.2.len; omega
  refine T.enter (vs := [intV (-1), .pointer (some ⟨bl, 0, none⟩)]) (H := H) Tryz.func58 rfl rfl rfl hs ?_
  repeat (any_goals (first | refine T.seq ?_ | refine T.region ?_ | refine TL.nil ?_ | refine N.next ?_ | refine N.ret_then ?_ | refine T.ret ?_ | (apply T.cond_true; rfl) | (apply TL.x; rfl; rfl; (apply X.alloc (d := 3); rfl; rfl; rfl); intro b3 _) | (apply TL.val; rfl; rfl; (apply V.load_H; rfl; rfl; rfl; exact hb 0 _ rfl)) | (apply TL.val; rfl; rfl; (apply V.elem (j := l.len - 1); (iterate 5 rfl); omega; omega; exact hg.at_ (by omega))) | (apply TL.val; rfl; rfl; (apply V.load_H_row; rfl; rfl; rfl; exact hrow; rfl)) | (apply TL.x; rfl; rfl; (apply X.callFE (f := 59) [.agg (enc x).toArray] Tryz.call59; rfl; rfl; rfl; exact (fun _ hs => c_tcloneZone x hxl (fun s hs => zoned_small hxz hxg hs) hs.sat hxg)); rintro ⟨H1, y⟩ ⟨⟨hy1, hy2⟩, hle1⟩; dsimp only at hy1 hy2 hle1 ⊢) | (apply TL.val; rfl; rfl; (apply V.build; (iterate 6 rfl))) | (apply TL.x; rfl; rfl; (apply X.storeTo 0 (enc (⟨true, y, Slc.nil _⟩ : OfferV)); (iterate 10 rfl)); intro _ _) | (apply TL.val; rfl; rfl; (first | exact vpure | exact vread))))
  all_goals (try contradiction)
  all_goals (try (exfalso; omega))
  all_goals exact N.ret1 rfl (by (exact rvx)) fun w1 hst => ⟨(H1, y), ⟨⟨hkl, by rw [hy1, hx]⟩, hy2⟩, rfl, hst.fresh⟩
set_option maxHeartbeats 4000000 in
theorem c_offerDeltas (l : Slc ZoneV) (bl k : Nat) (hz : ZonesOK l.els) (hk : k < l.len) (hs : Sat H w) (hR : Rules H) (hb : H.cells bl 0 [l.v]) (hg : l.Good H) : Calls Tryz.prog 58 #[intV k, .pointer (some ⟨bl, 0, none⟩)] w (RetF w H (fun p : Hp × Slc DeltaV => (ChainOK l.els k p.2.els ∧ k + p.2.len + 1 = l.len) ∧ p.2.Good p.1) (fun p => .agg (enc (⟨false, ZoneV.nil, p.2⟩ : OfferV)).toArray) (fun p => p.1)) := by
  have hlen := hg.len
  have hlim := hg.lim
  have hfew := hz.few
  refine T.enter (vs := [intV k, .pointer (some ⟨bl, 0, none⟩)]) (H := H) Tryz.func58 rfl rfl rfl hs ?_
  repeat (any_goals (first | refine T.seq ?_ | refine T.region ?_ | refine TL.nil ?_ | refine N.next ?_ | refine T.skip ?_ | refine T.block ?_ | (apply T.cond_false; rfl) | (apply TL.x; rfl; rfl; (apply X.alloc (d := 3); rfl; rfl; rfl); intro b3 _) | (apply TL.x; rfl; rfl; (apply X.alloc (d := 4); rfl; rfl; rfl); intro b4 _) | (apply TL.val; rfl; rfl; (first | exact vpure | exact vread))))
  all_goals (try contradiction)
  all_goals (try (exfalso; omega))
  refine T.nilRow 122 5 ?_
  refine T.loop (G := Value × Nat × Hp × List DeltaV) (fun q => [(1, .pointer (some ⟨bl, 0, none⟩)), (3, .pointer (some ⟨b3, 0, none⟩)), (4, .pointer (some ⟨b4, 0, none⟩)), (5, intV q.2.1)]) (fun q => q.2.2.1) (fun q => [.row q.1 122 5 q.2.2.2.length (encs q.2.2.2), .blk b4 73 [.bool false, strV [], .slice none 0 0, q.1], .blk b3 73 (enc (⟨false, ZoneV.nil, Slc.nil _⟩ : OfferV))]) (fun q => q.2.1 + 1 ≤ l.len ∧ H.le q.2.2.1 ∧ ChainOK l.els k q.2.2.2 ∧ q.2.1 = k + q.2.2.2.length ∧ (∀ y ∈ q.2.2.2, Enc.good q.2.2.1 y)) (fun q => l.len - q.2.1) (.slice none 0 0, k, H, []) ⟨by show k + 1 ≤ _; omega, .refl _, ⟨by show k + 0 + 1 ≤ _; omega, fun i h => absurd h (Nat.not_lt_zero _)⟩, rfl, fun y hy => (by cases hy)⟩ (by (repeat (first | exact True.intro | refine ⟨rfl, ?_⟩ | refine Sub.int rfl (by omega) ?_))) rfl (by (repeat (first | exact List.Sublist.refl _ | exact List.nil_sublist _ | apply List.Sublist.cons_cons | apply List.Sublist.cons))) ?_
  rintro ⟨v, i, H1, ds⟩ ⟨hi, hle, hch, hid, hgood⟩
  simp only at hi hle hch hid hgood ⊢
  have hb1 := Hp.cells_le hle hb
  have hg1 := hg.mono hle
  have hR1 := Rules.mono hle hR
  by_cases hlt : i + 1 < l.len
  · have hil : i < l.els.length := by omega
    have hil2 : i + 1 < l.els.length := by omega
    have hrow := hg1.row (k := i) (by omega)
    have hrow2 := hg1.row (k := i + 1) (by omega)
    have g1 := hg1.els _ (List.getElem_mem hil)
    have g2 := hg1.els _ (List.getElem_mem hil2)
    have z1 := hz.each _ (List.getElem_mem hil)
    have z2 := hz.each _ (List.getElem_mem hil2)
    have hap := hz.apex _ (List.getElem_mem hil) _ (List.getElem_mem hil2)
    have hst := hz.step i hil2
    have hsn := fun {d : DeltaV} => chain_snoc hch (i := i) hid hil2 (d := d)
    obtain ⟨x, hx⟩ : ∃ x, l.els[i]'hil = x := ⟨_, rfl⟩
    obtain ⟨y, hy⟩ : ∃ y, l.els[i + 1]'hil2 = y := ⟨_, rfl⟩
    rw [hx] at g1 z1 hap hst
    rw [hy] at g2 z2 hap hst
    simp only [hx, hy] at hsn
    try rw [hx] at hrow
    try rw [hy] at hrow2
    repeat (any_goals (first | refine T.seq ?_ | refine T.region ?_ | (apply T.regionD wide; rfl) | refine TL.nil ?_ | refine N.next ?_ | refine N.inBlock ?_ | refine N.exit_same ?_ | refine N.exit_then ?_ | refine T.skip ?_ | refine T.exit ?_ | refine T.block ?_ | (apply T.test; rfl; (exact isx); intro _; rotate_left; intro _; rotate_right) | (apply TL.val; rfl; rfl; (apply V.load_H; rfl; rfl; rfl; exact hb1 0 _ rfl)) | (apply GT.read; (iterate 4 rfl); (apply V.load_H; rfl; rfl; rfl; exact hb1 0 _ rfl); decide +kernel) | (apply GT.pure; (iterate 4 rfl); (apply V.elem (j := i); (iterate 6 rfl); omega; exact hg1.at_ (by omega)); decide +kernel) | (apply GT.pure; (iterate 4 rfl); (apply V.elem (j := i + 1); (iterate 5 rfl); omega; omega; exact hg1.at_ (by omega)); decide +kernel) | (apply GT.read; (iterate 4 rfl); (apply V.load_H_row; rfl; rfl; rfl; (first | exact hrow | exact hrow2); rfl); decide +kernel) | (apply GS.grow; rfl; rfl; (apply X.callFE (f := 60) [.agg (enc x).toArray, .agg (enc y).toArray] Tryz.call60; rfl; rfl; rfl; exact (fun _ hs => c_Diff x y z1 z2 hap rfl rfl hst hs.sat hR1 g1 g2)); rintro ⟨H2, d⟩ ⟨⟨hd1, hd2⟩, hle2⟩; dsimp only at hd1 hd2 hle2 ⊢) | (apply GS.grow; rfl; rfl; (apply X.alloc (d := 6); rfl; rfl; rfl); intro b6 _) | (apply GS.eff; rfl; decide +kernel; rfl; (apply X.storeTo 0 (enc d); (iterate 10 rfl)); intro _ _) | (apply TL.x; rfl; rfl; (apply X.buildSlice1 (d := 42); (iterate 8 rfl)); intro b42 _) | (apply TL.x; rfl; rfl; (apply X.append1 2; (iterate 9 rfl); exact List.Mem.head _; rfl; rfl; rfl; (refine Nat.le_trans (Nat.mul_le_mul_right _ (show _ ≤ 20001 by omega)) ?_; decide); omega); intro pa _) | (apply TL.x; rfl; rfl; (apply X.storeTo 3 [.bool false, strV [], .slice none 0 0, .slice (some ⟨pa.1, 0, none⟩) (ds.length + 1) pa.2]; (iterate 10 rfl)); intro _ _) | (apply TL.val; rfl; rfl; (first | exact vpure | exact vread)) | (apply GT.pure; (iterate 4 rfl); (first | exact vpure); decide +kernel) | (apply GT.done; decide +kernel; apply N.ofQ) | (apply GT.adv; rfl) | (apply GT.fork1; decide +kernel) | (apply GT.fork2 13; decide +kernel)))
    all_goals (try contradiction)
    all_goals (try (exfalso; omega))
    all_goals
      refine N.round (.slice (some ⟨pa.1, 0, none⟩) (ds.length + 1) pa.2, i + 1, H2, ds ++ [d]) ⟨by show i + 1 + 1 ≤ _; omega, hle.trans hle2, hsn hd1, by simp only [List.length_append, List.length_cons, List.length_nil]; omega, fun z hzm => ?_⟩ (by show l.len - (i + 1) < l.len - i; omega) (by (repeat (first | exact True.intro | refine ⟨rfl, ?_⟩ | refine Sub.int rfl (by omega) ?_))) rfl ?_
      · rcases List.mem_append.1 hzm with hzm | hzm
        · exact Enc.mono hle2 (hgood z hzm)
        · rw [List.mem_singleton.1 hzm]; exact hd2
      · simp only [List.length_append, List.length_cons, List.length_nil, Nat.zero_add, encs_snoc]
        (repeat (first | exact List.Sublist.refl _ | exact List.nil_sublist _ | apply List.Sublist.cons_cons | apply List.Sublist.cons))
  · refine T.frzRow 0 (els := ds) rfl rfl rfl hgood fun H2 sl e1 e2 e3 hle2 => ?_
    subst e1
    have hb2 := Hp.cells_le hle2 hb1
    have hsl := e3.len
    rw [e2] at hsl
    simp only [List.eraseIdx_cons_zero]
    repeat (any_goals (first | refine T.seq ?_ | refine T.region ?_ | (apply T.regionD wide; rfl) | refine TL.nil ?_ | refine N.next ?_ | refine N.exit_same ?_ | refine N.exit_then ?_ | refine T.ret ?_ | refine T.skip ?_ | refine T.exit ?_ | refine T.block ?_ | (apply T.test; rfl; (exact isx); intro _; rotate_left; intro _; rotate_right) | (apply TL.val; rfl; rfl; (apply V.load_H; rfl; rfl; rfl; exact hb2 0 _ rfl)) | (apply GT.read; (iterate 4 rfl); (apply V.load_H; rfl; rfl; rfl; exact hb2 0 _ rfl); decide +kernel) | (apply TL.x; rfl; rfl; (apply X.storeTo 1 (enc (⟨false, ZoneV.nil, sl⟩ : OfferV)); (iterate 10 rfl)); intro _ _) | (apply TL.val; rfl; rfl; (first | exact vpure | exact vread)) | (apply GT.pure; (iterate 4 rfl); (first | exact vpure); decide +kernel)))
    all_goals (try contradiction)
    all_goals (try (exfalso; omega))
    exact N.ret1 rfl (by (exact rvx)) fun w1 hst => ⟨(H2, sl), ⟨⟨by rw [e2]; exact hch, by show k + sl.len + 1 = l.len; omega⟩, e3⟩, rfl, ⟨hst.fresh.below, hst.fresh.sat, hst.fresh.le, hst.fresh.new⟩⟩
set_option maxHeartbeats 4000000 in
theorem c_ServeNew (l : Slc ZoneV) (n : Int) (hz : ZonesOK l.els) (h0 : 0 < l.len) (hs : Sat H w) (hR : Rules H) (hg : l.Good H) : Calls Tryz.prog 27 #[l.v, .bool false, intV n] w (RetF w H (fun p : Hp × ZoneV => (∃ h : l.len - 1 < l.els.length, p.2.c = l.els[l.len - 1].c) ∧ Enc.good p.1 p.2) (fun p => .tuple #[.agg (enc (⟨true, p.2, Slc.nil _⟩ : OfferV)).toArray, intV 0]) (fun p => p.1)) := by
  have hlen := hg.len
  have hlim := hg.lim
  have hfew := hz.few
  refine T.enter (vs := [l.v, .bool false, intV n]) (H := H) Tryz.func27 rfl rfl rfl hs ?_
  repeat (any_goals (first | refine T.seq ?_ | refine T.region ?_ | refine TL.nil ?_ | refine N.next ?_ | refine T.ret ?_ | refine T.skip ?_ | (apply T.cond_true; rfl) | (apply T.cond_false; rfl) | (apply T.test; rfl; (exact isx); intro _; rotate_left; intro _; rotate_right) | (apply TL.skip; rfl; rfl; rfl) | (apply TL.x; rfl; rfl; (apply X.box (d := 3) (cs := [l.v]); rfl; rfl; rfl); intro b3 _; apply TL.frzZ 0; rfl; intro H1 z3 hle1; have hR := Rules.mono hle1 hR; have hg := hg.mono hle1) | (apply TL.x; rfl; rfl; (apply X.alloc (d := 6); rfl; rfl; rfl); intro b6 _) | (apply TL.val; rfl; rfl; (apply V.load_H; rfl; rfl; rfl; exact z3 0 _ rfl)) | (apply TL.x; rfl; rfl; (apply X.callFE (f := 57) [l.v] Tryz.call57; rfl; rfl; rfl; exact (fun _ hs => c_tversions l hz hs.sat hR hg)); rintro ⟨H2, sl⟩ ⟨⟨e2, e3⟩, hle2⟩; dsimp only at e2 e3 hle2 ⊢; have hR := Rules.mono hle2 hR; have hg := hg.mono hle2; have z3 := Hp.cells_le hle2 z3) | (apply TL.val; rfl; rfl; ((apply V.makeFunc (vs := []) (us := [.pointer (some ⟨b3, 0, none⟩)]) <;> rfl))) | (apply TL.x; rfl; rfl; (apply X.callFV (intV (-1)) [.pointer (some ⟨b3, 0, none⟩)]; rfl; rfl; rfl; exact Tryz.call58; exact fun _ hs => c_offerFull l b3 hz h0 hs.sat z3 hg); rintro ⟨H4, y⟩ ⟨⟨hy1, hy2⟩, hle4⟩; dsimp only at hy1 hy2 hle4 ⊢) | (apply TL.x; rfl; rfl; (apply X.storeTo 0 (enc (⟨true, y, Slc.nil _⟩ : OfferV)); (iterate 10 rfl)); intro _ _) | (apply TL.val; rfl; rfl; (first | exact vpure | exact vread)) | (apply TL.guard; rfl; rfl; rfl; (exact isx); intro _; rotate_left; intro _; rotate_right)))
  all_goals (try contradiction)
  all_goals (try (exfalso; omega))
  all_goals first
    | exact N.ret2 rfl (by (exact rvx)) (by (exact rvx)) fun w1 hst => ⟨(H4, y), ⟨hy1, hy2⟩, rfl, ⟨hst.fresh.below, hst.fresh.sat, hst.fresh.le, hst.fresh.new⟩⟩
    | trace_state
set_option maxHeartbeats 4000000 in
theorem c_ServeMore (l : Slc ZoneV) (k : Nat) (hz : ZonesOK l.els) (hkl : k < l.els.length) {n : Int} (hn : serialC l.els[k].c = n) (hs : Sat H w) (hR : Rules H) (hg : l.Good H) : Calls Tryz.prog 27 #[l.v, .bool true, intV n] w (RetF w H (fun p : Hp × Slc DeltaV => (ChainOK l.els k p.2.els ∧ k + p.2.len + 1 = l.len) ∧ p.2.Good p.1) (fun p => .tuple #[.agg (enc (⟨false, ZoneV.nil, p.2⟩ : OfferV)).toArray, intV 0]) (fun p => p.1)) := by
  have hlen := hg.len
  have hlim := hg.lim
  have hfew := hz.few
  have hnr := (hz.each _ (List.getElem_mem hkl)).serial
  rw [hn] at hnr
  refine T.enter (vs := [l.v, .bool true, intV n]) (H := H) Tryz.func27 rfl rfl rfl hs ?_
  repeat (any_goals (first | refine T.seq ?_ | refine T.region ?_ | refine TL.nil ?_ | refine N.next ?_ | refine T.skip ?_ | refine T.block ?_ | (apply T.cond_true; rfl) | (apply T.cond_false; rfl) | (apply T.test; rfl; (exact isx); intro _; rotate_left; intro _; rotate_right) | (apply TL.skip; rfl; rfl; rfl) | (apply TL.x; rfl; rfl; (apply X.box (d := 3) (cs := [l.v]); rfl; rfl; rfl); intro b3 _; apply TL.frzZ 0; rfl; intro H1 z3 hle1; have hR := Rules.mono hle1 hR; have hg := hg.mono hle1) | (apply TL.x; rfl; rfl; (apply X.alloc (d := 6); rfl; rfl; rfl); intro b6 _) | (apply TL.val; rfl; rfl; (apply V.load_H; rfl; rfl; rfl; exact z3 0 _ rfl)) | (apply TL.x; rfl; rfl; (apply X.callFE (f := 57) [l.v] Tryz.call57; rfl; rfl; rfl; exact (fun _ hs => c_tversions l hz hs.sat hR hg)); rintro ⟨H2, sl⟩ ⟨⟨e2, e3⟩, hle2⟩; dsimp only at e2 e3 hle2 ⊢; have hR := Rules.mono hle2 hR; have hg := hg.mono hle2; have z3 := Hp.cells_le hle2 z3; have e3 : sl.Good H2 := e3; have hsl : sl.els.length = sl.len := e3.len; have e4 : sl.els.length = l.len := (by rw [e2, List.length_map, hlen])) | (apply TL.val; rfl; rfl; ((apply V.makeFunc (vs := []) (us := [.pointer (some ⟨b3, 0, none⟩)]) <;> rfl))) | (apply TL.val; rfl; rfl; (first | exact vpure | exact vread)) | (apply TL.guard; rfl; rfl; rfl; (exact isx); intro _; rotate_left; intro _; rotate_right)))
  all_goals (try contradiction)
  all_goals (try (exfalso; omega))
  refine T.loop (G := Nat) (fun i => [(2, intV n), (6, .pointer (some ⟨b6, 0, none⟩)), (10, .func (.func 58) #[] #[.pointer (some ⟨b3, 0, none⟩)]), (11, intV (if k < i then (k : Int) else -1)), (43, sl.v), (44, intV sl.len), (45, intV i)]) (fun _ => H2) (fun _ => [.blk b6 73 (enc (⟨false, ZoneV.nil, Slc.nil _⟩ : OfferV))]) (fun i => i ≤ sl.len) (fun i => sl.len - i) 0 (Nat.zero_le _) (by (repeat (first | exact True.intro | refine ⟨rfl, ?_⟩ | refine Sub.int rfl (by omega) ?_))) rfl (by (repeat (first | exact List.Sublist.refl _ | exact List.nil_sublist _ | apply List.Sublist.cons_cons | apply List.Sublist.cons))) ?_
  intro i hi
  by_cases hlt : i < sl.len
  · have hil : i < l.els.length := by omega
    have c1 : H2.cell sl.b (sl.o + i * 1) = some (intV (serialC (l.els[i]'hil).c)) := by
      have := e3.cell0 (k := i) (by omega) (v := intV (sl.els[i]'(by omega))) rfl
      refine this.trans ?_; congr 2
      simp only [e2, List.getElem_map, serV]
    obtain ⟨m, hm⟩ : ∃ m, serialC (l.els[i]'hil).c = m := ⟨_, rfl⟩
    rw [hm] at c1
    have hone : m = n ↔ i = k := by
      rw [← hm, ← hn]
      constructor
      · intro e
        have hnd := hz.apart
        have h1 : i < (l.els.map fun z => serialC z.c).length := by rw [List.length_map]; exact hil
        have h2 : k < (l.els.map fun z => serialC z.c).length := by rw [List.length_map]; exact hkl
        exact nodup_inj hnd h1 h2 (by rw [List.getElem_map, List.getElem_map]; exact e)
      · intro e; subst e; rfl
    by_cases e : i = k
    · have hmn := hone.2 e
      have hif : (if k < i + 1 then (k : Int) else -1) = (i : Int) := by rw [if_pos (by omega), e]
      repeat (any_goals (first | refine T.seq ?_ | refine T.region ?_ | refine TL.nil ?_ | refine N.next ?_ | refine N.inBlock ?_ | refine N.exit_same ?_ | refine N.exit_then ?_ | refine T.skip ?_ | refine T.exit ?_ | refine T.block ?_ | (apply T.cond_true; rfl) | (apply T.test; rfl; (exact isx); intro _; rotate_left; intro _; rotate_right) | (apply TL.val; rfl; rfl; (apply V.elem (j := i); (iterate 6 rfl); omega; exact e3.at_ (by omega))) | (apply TL.val; rfl; rfl; (apply V.load_H; rfl; rfl; rfl; exact c1)) | (apply TL.val; rfl; rfl; (apply V.eqlE hmn; rfl; rfl)) | (apply TL.val; rfl; rfl; (first | exact vpure | exact vread))))
      all_goals (try contradiction)
      all_goals (try (exfalso; omega))
      refine N.round (i + 1) (by omega) (by show sl.len - (i + 1) < sl.len - i; omega) (by simp only [hif]; (repeat (first | exact True.intro | refine ⟨rfl, ?_⟩ | refine Sub.int rfl (by omega) ?_))) rfl (by (repeat (first | exact List.Sublist.refl _ | exact List.nil_sublist _ | apply List.Sublist.cons_cons | apply List.Sublist.cons)))
    · have hmn : m ≠ n := fun h => e (hone.1 h)
      have hif : (if k < i + 1 then (k : Int) else -1) = (if k < i then (k : Int) else -1) := by
        by_cases h : k < i
        · rw [if_pos h, if_pos (by omega)]
        · rw [if_neg h, if_neg (by omega)]
      repeat (any_goals (first | refine T.seq ?_ | refine T.region ?_ | refine TL.nil ?_ | refine N.next ?_ | refine N.inBlock ?_ | refine N.exit_same ?_ | refine N.exit_then ?_ | refine T.skip ?_ | refine T.exit ?_ | refine T.block ?_ | (apply T.cond_false; rfl) | (apply T.test; rfl; (exact isx); intro _; rotate_left; intro _; rotate_right) | (apply TL.val; rfl; rfl; (apply V.elem (j := i); (iterate 6 rfl); omega; exact e3.at_ (by omega))) | (apply TL.val; rfl; rfl; (apply V.load_H; rfl; rfl; rfl; exact c1)) | (apply TL.val; rfl; rfl; (apply V.eqlF hmn; rfl; rfl)) | (apply TL.val; rfl; rfl; (first | exact vpure | exact vread))))
      all_goals (try contradiction)
      all_goals (try (exfalso; omega))
      refine N.round (i + 1) (by omega) (by show sl.len - (i + 1) < sl.len - i; omega) (by simp only [hif]; (repeat (first | exact True.intro | refine ⟨rfl, ?_⟩ | refine Sub.int rfl (by omega) ?_))) rfl (by (repeat (first | exact List.Sublist.refl _ | exact List.nil_sublist _ | apply List.Sublist.cons_cons | apply List.Sublist.cons)))
  · have hif : (if k < i then (k : Int) else -1) = (k : Int) := if_pos (by omega)
    simp only [hif]
    repeat (any_goals (first | refine T.seq ?_ | refine T.region ?_ | refine TL.nil ?_ | refine N.next ?_ | refine N.inBlock ?_ | refine N.exit_same ?_ | refine N.exit_then ?_ | refine T.ret ?_ | refine T.skip ?_ | refine T.exit ?_ | refine T.block ?_ | (apply T.test; rfl; (exact isx); intro _; rotate_left; intro _; rotate_right) | (apply TL.x; rfl; rfl; (apply X.callFV (intV k) [.pointer (some ⟨b3, 0, none⟩)]; rfl; rfl; rfl; exact Tryz.call58; exact fun _ hs => c_offerDeltas l b3 k hz (by omega) hs.sat hR z3 hg); rintro ⟨H4, ds⟩ ⟨⟨hy1, hy2⟩, hle4⟩; dsimp only at hy1 hy2 hle4 ⊢) | (apply TL.x; rfl; rfl; (apply X.storeTo 0 (enc (⟨false, ZoneV.nil, ds⟩ : OfferV)); (iterate 10 rfl)); intro _ _) | (apply TL.val; rfl; rfl; (first | exact vpure | exact vread))))
    all_goals (try contradiction)
    all_goals (try (exfalso; omega))
    exact N.ret2 rfl (by (exact rvx)) (by (exact rvx)) fun w1 hst => ⟨(H4, ds), ⟨hy1, hy2⟩, rfl, ⟨hst.fresh.below, hst.fresh.sat, hst.fresh.le, hst.fresh.new⟩⟩
end
end Go.Proofs.YthabgdbhgcgemaaGreatDoor
