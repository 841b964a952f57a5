import Derived.Test.YthabgdbhgcgemaaGreatDoorQZV
import Derived.Test.YthabgdbhgcgemaaGreatDoorQZJ
namespace Go.Proofs.YthabgdbhgcgemaaGreatDoor
set_option linter.unusedVariables false
set_option linter.unusedSimpArgs false
open Go Go.RowKit
open Enc (enc)
set_option maxRecDepth 20000
def sgEnts (gl : List (Question × Signed)) : List (Question × Value) := gl.map fun p => (p.1, sgV p.2)
def plPairs (l : List Signed) : List (Question × Signed) := l.map fun s => (placeV s, s)
theorem plEnts_eq (l : List Signed) : plEnts l = sgEnts (plPairs l) := by
  unfold plEnts sgEnts plPairs
  rw [List.map_map]; rfl
def gFindS (a : Question) (gl : List (Question × Signed)) : Option Signed := (gl.find? fun p => decide (a = p.1)).map (·.2)
def zeroS : Signed := ⟨⟨[], 0, 0, Slc.nil _⟩, Slc.nil _⟩
theorem aFind_sg (a : Question) : ∀ (gl : List (Question × Signed)) (i : Nat), (aFind a (sgEnts gl) i).map (·.2) = (gFindS a gl).map sgV
  | [], _ => rfl
  | p :: gl, i => by
    have ih := aFind_sg a gl (i + 1)
    unfold sgEnts gFindS at ih ⊢
    rw [List.map_cons]
    unfold aFind
    by_cases h : a = p.1
    · rw [if_pos h, List.find?_cons_of_pos (by simpa using h)]; rfl
    · rw [if_neg h, List.find?_cons_of_neg (by simpa using h)]; exact ih
theorem aGet_sg (a : Question) (gl : List (Question × Signed)) : aGet a (sgEnts gl) = (gFindS a gl).map sgV := aFind_sg a gl 0
theorem sg_getD (o : Option Signed) : (o.map sgV).getD (sgV zeroS) = sgV (o.getD zeroS) := by cases o <;> rfl
theorem look_sg {a : Question} {gl : List (Question × Signed)} {o : Option Signed} (h : gFindS a gl = o) : (aGet a (sgEnts gl)).getD (sgV zeroS) = sgV (o.getD zeroS) := by rw [aGet_sg, h, sg_getD]
theorem look_is {a : Question} {gl : List (Question × Signed)} {o : Option Signed} (h : gFindS a gl = o) : (aGet a (sgEnts gl)).isSome = o.isSome := by rw [aGet_sg, h]; cases o <;> rfl
theorem gFindS_some {a : Question} {gl : List (Question × Signed)} {y : Signed} (h : gFindS a gl = some y) : (a, y) ∈ gl := by
  unfold gFindS at h
  obtain ⟨p, hp, rfl⟩ := Option.map_eq_some_iff.1 h
  have h1 := List.find?_some hp
  have h2 := List.mem_of_find?_eq_some hp
  rw [decide_eq_true_iff] at h1
  rw [h1]; exact h2
theorem gFindS_none {a : Question} {gl : List (Question × Signed)} (h : gFindS a gl = none) : ∀ p ∈ gl, p.1 ≠ a := fun p hp e => by
  unfold gFindS at h
  rw [Option.map_eq_none_iff, List.find?_eq_none] at h
  have := h p hp
  simp [e] at this
theorem gFindS_isSome {a : Question} {gl : List (Question × Signed)} : (gFindS a gl).isSome = decide (a ∈ gl.map (·.1)) := by
  cases h : gFindS a gl with
  | none =>
    refine (decide_eq_false fun hm => ?_).symm
    obtain ⟨p, hp, e⟩ := List.mem_map.1 hm
    exact gFindS_none h p hp e
  | some y => exact (decide_eq_true (List.mem_map.2 ⟨_, gFindS_some h, rfl⟩)).symm
theorem plPairs_keys (l : List Signed) : (plPairs l).map (·.1) = l.map placeV := by unfold plPairs; rw [List.map_map]; rfl
theorem plFind_some {a : Question} {l : List Signed} {y : Signed} (h : gFindS a (plPairs l) = some y) : y ∈ l ∧ placeV y = a := by
  obtain ⟨s, hs, e⟩ := List.mem_map.1 (gFindS_some h)
  simp only [Prod.mk.injEq] at e
  obtain ⟨e1, rfl⟩ := e
  exact ⟨hs, e1⟩
theorem ret_retF {G : Type} {w : World} {H : Hp} (hs : Sat H w) {v : Value} {en : Ending} {w' : World} (h : Ret w v en w') {φ : G → Prop} {vf : G → Value} {HH : G → Hp} (g : G) (hg : φ g) (hv : v = vf g) (hH : HH g = H) : RetF w H φ vf HH en w' :=
  ⟨g, hg, hv ▸ h.1, by rw [hH]; exact ((St.start w H hs).grow h.2).fresh⟩
def tkO (x : Signed) : Option Signed → Bool
  | none => true
  | some y => !decide (y.c = x.c)
section
variable {H : Hp} {w : World}
set_option maxHeartbeats 2000000 in
theorem c_Diff1 (gl : List (Question × Signed)) (x : Signed) (bb bm : Nat) {o : Option Signed} (ho : gFindS (placeV x) gl = o) (hs : Sat H w) (hb : H.cells bb 0 [.map (some bm)]) (hm : H bm = some (mObj qV (sgEnts gl))) : Calls Tryz.prog 104 #[sgV x, .pointer (some ⟨bb, 0, none⟩)] w (Ret w (.tuple #[qV (placeV x), .bool (!o.isSome)])) := by
  refine T.enter (vs := [sgV x, .pointer (some ⟨bb, 0, none⟩)]) (H := H) Tryz.func104 rfl rfl rfl hs ?_
  repeat (any_goals (first | refine T.seq ?_ | refine T.region ?_ | refine TL.nil ?_ | refine N.next ?_ | refine T.ret ?_ | (apply TL.x; rfl; rfl; (apply X.box (d := 2) (cs := enc x); rfl; rfl; rfl); intro b2 _) | (apply TL.x; rfl; rfl; (apply X.alloc (d := 3); rfl; rfl; rfl); intro b3 _) | (apply TL.callE (f := 105) [sgV x] Tryz.call105; (iterate 4 rfl); (exact fun _ hs => c_dplace x hs.sat)) | (apply TL.x; rfl; rfl; (apply X.alloc (d := 5); rfl; rfl; rfl); intro b5 _) | (apply TL.x; rfl; rfl; (apply X.storeTo 0 (enc (placeV x)); (iterate 10 rfl)); intro _ _) | (apply TL.val; rfl; rfl; (apply V.load_H; rfl; rfl; rfl; exact hb 0 _ rfl)) | (apply TL.val; rfl; rfl; (apply V.mlookupOkH (mk := qV) (l := sgEnts gl) (c := sgV (o.getD zeroS)) (f := o.isSome) (placeV x); rfl; rfl; rfl; exact key_q; rfl; rfl; exact hm; exact look_sg ho; exact look_is ho)) | (apply TL.x; rfl; rfl; (apply X.alloc (d := 6); rfl; rfl; rfl); intro b6 _) | (apply TL.x; rfl; rfl; (apply X.storeTo 0 (enc (o.getD zeroS)); (iterate 10 rfl)); intro _ _) | (apply TL.x; rfl; rfl; (apply X.storeTo 2 (enc (placeV x)); (iterate 10 rfl)); intro _ _) | (apply TL.val; rfl; rfl; (first | exact vpure | exact vread))))
  exact N.ret_two rfl (by (exact rvx)) (by (exact rvx)) rfl
set_option maxHeartbeats 2000000 in
theorem c_Apply1 (gl : List (Question × Signed)) (x : Signed) (bb bm : Nat) {o : Option Signed} (ho : gFindS (placeV x) gl = o) (hs : Sat H w) (hb : H.cells bb 0 [.map (some bm)]) (hm : H bm = some (mObj qV (sgEnts gl))) : Calls Tryz.prog 113 #[sgV x, .pointer (some ⟨bb, 0, none⟩)] w (Ret w (.tuple #[sgV x, .bool (!o.isSome)])) := by
  refine T.enter (vs := [sgV x, .pointer (some ⟨bb, 0, none⟩)]) (H := H) Tryz.func113 rfl rfl rfl hs ?_
  repeat (any_goals (first | refine T.seq ?_ | refine T.region ?_ | (apply T.regionD wide; rfl) | refine TL.nil ?_ | refine N.next ?_ | refine T.ret ?_ | (apply TL.x; rfl; rfl; (apply X.box (d := 2) (cs := enc x); rfl; rfl; rfl); intro b2 _) | (apply TL.x; rfl; rfl; (apply X.alloc (d := 3); rfl; rfl; rfl); intro b3 _) | (apply GT.read; (iterate 4 rfl); (apply V.load_H; rfl; rfl; rfl; exact hb 0 _ rfl); decide +kernel) | (apply GT.callE (f := 105) [sgV x] Tryz.call105; (iterate 6 rfl); (exact fun _ hs => c_dplace x hs.sat); decide +kernel) | (apply GS.grow; rfl; rfl; (apply X.alloc (d := 5); rfl; rfl; rfl); intro b5 _) | (apply GS.eff; rfl; decide +kernel; rfl; (apply X.storeTo 0 (enc (o.getD zeroS)); (iterate 10 rfl)); intro _ _) | (apply GT.read; (iterate 4 rfl); (apply V.mlookupOkH (mk := qV) (l := sgEnts gl) (c := sgV (o.getD zeroS)) (f := o.isSome) (placeV x); rfl; rfl; rfl; exact key_q; rfl; rfl; exact hm; exact look_sg ho; exact look_is ho); decide +kernel) | (apply TL.x; rfl; rfl; (apply X.storeTo 1 (enc x); (iterate 10 rfl)); intro _ _) | (apply TL.val; rfl; rfl; (first | exact vpure | exact vread)) | (apply GT.pure; (iterate 4 rfl); (first | exact vpure); decide +kernel) | (apply GT.read; (iterate 4 rfl); (first | exact vpure | exact vread); decide +kernel) | (apply GT.done; decide +kernel; apply N.ofQ) | (apply GT.adv; rfl) | (apply GT.fork1; decide +kernel)))
  all_goals exact N.ret_two rfl (by (exact rvx)) (by (exact rvx)) rfl
theorem c_Apply2 (x : Signed) (hs : Sat H w) (hg : Enc.good H x) (h1 : x.set.data.len ≤ 1000) (h2 : x.sigs.len ≤ 1000) : Calls Tryz.prog 116 #[sgV x] w (RetF w H (fun p : Hp × Signed => p.2.c = x.c ∧ Enc.good p.1 p.2) (fun p => .tuple #[sgV p.2, .bool true]) (fun p => p.1)) := by
  refine T.enter (vs := [sgV x]) (H := H) Tryz.func116 rfl rfl rfl hs ?_
  repeat (any_goals (first | refine T.seq ?_ | refine T.region ?_ | refine TL.nil ?_ | refine N.next ?_ | refine T.ret ?_ | (apply TL.x; rfl; rfl; (apply X.box (d := 1) (cs := enc x); rfl; rfl; rfl); intro b1 _) | (apply TL.x; rfl; rfl; (apply X.alloc (d := 2); rfl; rfl; rfl); intro b2 _) | (apply TL.x; rfl; rfl; (apply X.callFE (f := 108) [sgV x] Tryz.call108; rfl; rfl; rfl; exact (fun _ hs => c_dclone x hs.sat hg h1 h2)); intro p hp) | (apply TL.x; rfl; rfl; (apply X.storeTo 0 (enc p.2); (iterate 10 rfl)); intro _ _) | (apply TL.val; rfl; rfl; (first | exact vpure | exact vread))))
  exact N.ret2 rfl (by (exact rvx)) (by (exact rvx)) fun w1 hst => ⟨p, hp.1, rfl, hst.fresh⟩
set_option maxHeartbeats 4000000 in
theorem c_Diff2 (l : List Signed) (x : Signed) (bb bm : Nat) {o : Option Signed} (ho : gFindS (placeV x) (plPairs l) = o) (hs : Sat H w) (hb : H.cells bb 0 [.map (some bm)]) (hm : H bm = some (mObj qV (sgEnts (plPairs l)))) (hl : ∀ y ∈ l, Enc.good H y) (hg : Enc.good H x) (h1 : x.set.data.len ≤ 1000) (h2 : x.sigs.len ≤ 1000) : Calls Tryz.prog 107 #[sgV x, .pointer (some ⟨bb, 0, none⟩)] w (RetF w H (fun p : Hp × Signed => p.2.c = x.c ∧ Enc.good p.1 p.2) (fun p => .tuple #[sgV p.2, .bool (tkO x o)]) (fun p => p.1)) := by
  refine T.enter (vs := [sgV x, .pointer (some ⟨bb, 0, none⟩)]) (H := H) Tryz.func107 rfl rfl rfl hs ?_
  cases o with
  | none =>
    repeat (any_goals (first | refine T.seq ?_ | refine T.region ?_ | (apply T.regionD wide; rfl) | refine TL.nil ?_ | refine N.next ?_ | refine T.ret ?_ | (apply TL.skip; rfl; rfl; rfl) | (apply TL.x; rfl; rfl; (apply X.box (d := 2) (cs := enc x); rfl; rfl; rfl); intro b2 _) | (apply TL.x; rfl; rfl; (apply X.alloc (d := 3); rfl; rfl; rfl); intro b3 _) | (apply GT.read; (iterate 4 rfl); (apply V.load_H; rfl; rfl; rfl; exact hb 0 _ rfl); decide +kernel) | (apply GT.callE (f := 105) [sgV x] Tryz.call105; (iterate 6 rfl); (exact fun _ hs => c_dplace x hs.sat); decide +kernel) | (apply GS.grow; rfl; rfl; (apply X.alloc (d := 5); rfl; rfl; rfl); intro b5 _) | (apply GS.eff; rfl; decide +kernel; rfl; (apply X.storeTo 0 (enc zeroS); (iterate 10 rfl)); intro _ _) | (apply GT.read; (iterate 4 rfl); (apply V.mlookupOkH (mk := qV) (l := sgEnts (plPairs l)) (c := sgV zeroS) (f := false) (placeV x); rfl; rfl; rfl; exact key_q; rfl; rfl; exact hm; exact look_sg ho; exact look_is ho); decide +kernel) | (apply TL.x; rfl; rfl; (apply X.callFE (f := 108) [sgV x] Tryz.call108; rfl; rfl; rfl; exact (fun _ hs => c_dclone x hs.sat hg h1 h2)); intro p hp) | (apply TL.x; rfl; rfl; (apply X.storeTo 1 (enc p.2); (iterate 10 rfl)); intro _ _) | (apply TL.val; rfl; rfl; (first | exact vpure | exact vread)) | (apply GT.pure; (iterate 4 rfl); (first | exact vpure); decide +kernel) | (apply GT.read; (iterate 4 rfl); (first | exact vpure | exact vread); decide +kernel) | (apply GT.done; decide +kernel; apply N.ofQ) | (apply GT.adv; rfl) | (apply GT.fork1; decide +kernel)))
    all_goals (try contradiction)
    all_goals exact N.ret2 rfl (by (exact rvx)) (by (exact rvx)) fun w1 hst => ⟨p, hp.1, rfl, hst.fresh⟩
  | some y =>
    obtain ⟨hy1, hy2⟩ := plFind_some ho
    have hyg := hl y hy1
    repeat (any_goals (first | refine T.seq ?_ | refine T.region ?_ | (apply T.regionD wide; rfl) | refine TL.nil ?_ | refine N.next ?_ | refine T.ret ?_ | (apply TL.x; rfl; rfl; (apply X.box (d := 2) (cs := enc x); rfl; rfl; rfl); intro b2 _) | (apply TL.x; rfl; rfl; (apply X.alloc (d := 3); rfl; rfl; rfl); intro b3 _) | (apply GT.read; (iterate 4 rfl); (apply V.load_H; rfl; rfl; rfl; exact hb 0 _ rfl); decide +kernel) | (apply GT.callE (f := 105) [sgV x] Tryz.call105; (iterate 6 rfl); (exact fun _ hs => c_dplace x hs.sat); decide +kernel) | (apply GS.grow; rfl; rfl; (apply X.alloc (d := 5); rfl; rfl; rfl); intro b5 _) | (apply GS.eff; rfl; decide +kernel; rfl; (apply X.storeTo 0 (enc y); (iterate 10 rfl)); intro _ _) | (apply GT.read; (iterate 4 rfl); (apply V.mlookupOkH (mk := qV) (l := sgEnts (plPairs l)) (c := sgV y) (f := true) (placeV x); rfl; rfl; rfl; exact key_q; rfl; rfl; exact hm; exact look_sg ho; exact look_is ho); decide +kernel) | (apply TL.x; rfl; rfl; (apply X.callFE (f := 108) [sgV x] Tryz.call108; rfl; rfl; rfl; exact (fun _ hs => c_dclone x hs.sat hg h1 h2)); intro p hp; have hyg := Enc.mono hp.2 hyg; have hg := Enc.mono hp.2 hg) | (apply TL.callE (f := 109) [sgV y, sgV x] Tryz.call109; (iterate 4 rfl); (exact fun _ hs => c_dsame y x hy2 hs.sat hyg hg)) | (apply TL.x; rfl; rfl; (apply X.storeTo 1 (enc p.2); (iterate 10 rfl)); intro _ _) | (apply TL.val; rfl; rfl; (first | exact vpure | exact vread)) | (apply GT.pure; (iterate 4 rfl); (first | exact vpure); decide +kernel) | (apply GT.read; (iterate 4 rfl); (first | exact vpure | exact vread); decide +kernel) | (apply GT.done; decide +kernel; apply N.ofQ) | (apply GT.adv; rfl) | (apply GT.fork1; decide +kernel)))
    all_goals (try contradiction)
    all_goals exact N.ret2 rfl (by (exact rvx)) (by (exact rvx)) fun w1 hst => ⟨p, hp.1, rfl, hst.fresh⟩
end
end Go.Proofs.YthabgdbhgcgemaaGreatDoor
namespace Go.Proofs.YthabgdbhgcgemaaGreatDoor
set_option linter.unusedVariables false
set_option linter.unusedSimpArgs false
open Go Go.RowKit
open Enc (enc)
set_option maxRecDepth 20000
set_option maxHeartbeats 4000000 in
theorem c_apexHolds (z : ZoneV) (h1 : OneZ z.c) (h2 : TwoZ z.c) {H : Hp} {w : World} (hs : Sat H w) (hz : Enc.good H z) : Calls Tryz.prog 74 #[.agg (enc z).toArray] w (Ret w (.bool true)) := by
  have hg0 := hz.2
  have hlen := hg0.len
  have hlim := hg0.lim
  have hv : nameOK z.apex = true := h1.apexOK
  have hf : z.sets.len ≤ 20000 := by have := h1.few; rw [setsC_len] at this; omega
  obtain ⟨r4, hr4⟩ := h1.found h2.start
  obtain ⟨r2, hr2⟩ := h1.found h2.server
  refine T.enter (vs := [.agg (enc z).toArray]) (H := H) Tryz.func74 rfl rfl rfl hs ?_
  repeat (any_goals (first | refine T.seq ?_ | refine T.region ?_ | refine TL.nil ?_ | refine N.next ?_ | refine T.block ?_ | (apply TL.x; rfl; rfl; (apply X.box (d := 1); rfl; rfl; rfl); intro b1 _) | (apply TL.x; rfl; rfl; (apply X.buildOnes; (iterate 9 rfl)); intro b9 _; apply TL.frzBlk 0 (els := [(4 : Int), 2]) (m := 2) rfl rfl rfl (by decide) (by intro x hx; simp at hx; rcases hx with rfl | rfl; exact (show I64 4 by decide); exact (show I64 2 by decide)); intro H9 hn9 hle9) | (apply TL.val; rfl; rfl; (first | exact vpure | exact vread))))
  have hg := hg0.mono hle9
  have hz9 := Enc.mono hle9 hz
  refine T.loop (G := Nat) (fun k => [(1, .pointer (some ⟨b1, 0, none⟩)), (9, (⟨some ⟨b9, 0, none⟩, 2, 2, [4, 2]⟩ : Slc Int).v), (10, intV 2), (11, intV k)]) (fun _ => H9) (fun _ => [.blk b1 116 (enc z)]) (fun k => k ≤ 2) (fun k => 2 - k) 0 (Nat.zero_le _) (by (repeat (first | exact True.intro | refine ⟨rfl, ?_⟩ | refine Sub.int rfl (by omega) ?_))) rfl (by (repeat (first | exact List.Sublist.refl _ | exact List.nil_sublist _ | apply List.Sublist.cons_cons | apply List.Sublist.cons))) ?_
  intro k hk
  have hk3 : k = 0 ∨ k = 1 ∨ k = 2 := by omega
  rcases hk3 with rfl | rfl | rfl
  · repeat (any_goals (first | refine T.seq ?_ | refine T.region ?_ | refine TL.nil ?_ | refine N.next ?_ | refine N.inBlock ?_ | refine T.skip ?_ | refine T.block ?_ | (apply T.cond_true; rfl) | (apply T.cond_false; rfl) | (apply TL.val; rfl; rfl; (apply V.elem (j := 0); (iterate 6 rfl); exact (show (0 : Nat) < 2 by decide); rfl)) | (apply TL.val; rfl; rfl; (apply V.load_H; rfl; rfl; rfl; exact hn9.cell (k := 0) (j := 0) (show (0 : Nat) < 2 by decide) (v := intV 4) rfl)) | (apply TL.val; rfl; rfl; (apply V.build; (iterate 6 rfl))) | (apply TL.callE (f := 56) [.agg (enc z).toArray, .agg (enc (⟨z.apex, 4⟩ : Question)).toArray] Tryz.call56; (iterate 4 rfl); (exact fun _ hs => c_findZ z ⟨z.apex, 4⟩ r4 h1.names hv hs.sat hz9 hr4 hf)) | (apply TL.val; rfl; rfl; (first | exact vpure | exact vread))))
    all_goals (try contradiction)
    all_goals (try (exfalso; omega))
    refine N.round 1 (by omega) (by decide) (by (repeat (first | exact True.intro | refine ⟨rfl, ?_⟩ | refine Sub.int rfl (by omega) ?_))) rfl (by (repeat (first | exact List.Sublist.refl _ | exact List.nil_sublist _ | apply List.Sublist.cons_cons | apply List.Sublist.cons)))
  · repeat (any_goals (first | refine T.seq ?_ | refine T.region ?_ | refine TL.nil ?_ | refine N.next ?_ | refine N.inBlock ?_ | refine T.skip ?_ | refine T.block ?_ | (apply T.cond_true; rfl) | (apply T.cond_false; rfl) | (apply TL.val; rfl; rfl; (apply V.elem (j := 1); (iterate 6 rfl); exact (show (1 : Nat) < 2 by decide); rfl)) | (apply TL.val; rfl; rfl; (apply V.load_H; rfl; rfl; rfl; exact hn9.cell (k := 1) (j := 0) (show (1 : Nat) < 2 by decide) (v := intV 2) rfl)) | (apply TL.val; rfl; rfl; (apply V.build; (iterate 6 rfl))) | (apply TL.callE (f := 56) [.agg (enc z).toArray, .agg (enc (⟨z.apex, 2⟩ : Question)).toArray] Tryz.call56; (iterate 4 rfl); (exact fun _ hs => c_findZ z ⟨z.apex, 2⟩ r2 h1.names hv hs.sat hz9 hr2 hf)) | (apply TL.val; rfl; rfl; (first | exact vpure | exact vread))))
    all_goals (try contradiction)
    all_goals (try (exfalso; omega))
    refine N.round 2 (by omega) (by decide) (by (repeat (first | exact True.intro | refine ⟨rfl, ?_⟩ | refine Sub.int rfl (by omega) ?_))) rfl (by (repeat (first | exact List.Sublist.refl _ | exact List.nil_sublist _ | apply List.Sublist.cons_cons | apply List.Sublist.cons)))
  · repeat (any_goals (first | refine T.seq ?_ | refine T.region ?_ | refine TL.nil ?_ | refine N.next ?_ | refine N.exit_same ?_ | refine N.exit_then ?_ | refine T.exit ?_ | refine T.block ?_ | (apply T.cond_false; rfl) | (apply TL.val; rfl; rfl; (first | exact vpure | exact vread))))
    all_goals (try (exfalso; omega))
    refine T.loop (G := Nat) (fun k => [(1, .pointer (some ⟨b1, 0, none⟩)), (30, z.sets.v), (31, intV z.sets.len), (32, intV k)]) (fun _ => H9) (fun _ => [.blk b1 116 (enc z)]) (fun k => k ≤ z.sets.len) (fun k => z.sets.len - k) 0 (Nat.zero_le _) (by (repeat (first | exact True.intro | refine ⟨rfl, ?_⟩ | refine Sub.int rfl (by omega) ?_))) rfl (by (repeat (first | exact List.Sublist.refl _ | exact List.nil_sublist _ | apply List.Sublist.cons_cons | apply List.Sublist.cons))) ?_
    intro k hk
    by_cases hlt : k < z.sets.len
    · have hkl : k < z.sets.els.length := by omega
      have hrow := hg.row (k := k) hlt
      have hpl := h2.placed _ (show (z.sets.els[k]'hkl).c ∈ z.c.sets by unfold ZoneV.c; exact List.mem_map.2 ⟨_, List.getElem_mem hkl, rfl⟩)
      obtain ⟨x, hx⟩ : ∃ x, z.sets.els[k]'hkl = x := ⟨_, rfl⟩
      rw [hx] at hpl
      try rw [hx] at hrow
      have hpl : placedOK x.set.typ (decide (x.set.name = z.apex)) = true := hpl
      repeat (any_goals (first | refine T.seq ?_ | refine T.region ?_ | refine TL.nil ?_ | refine N.next ?_ | refine N.inBlock ?_ | refine N.exit_same ?_ | refine N.exit_then ?_ | refine T.ret ?_ | refine T.skip ?_ | refine T.exit ?_ | refine T.block ?_ | (apply T.cond_false; rfl) | (apply T.test; rfl; (exact isx); intro _; rotate_left; intro _; rotate_right) | (apply TL.val; rfl; rfl; (apply V.elem (j := k); (iterate 6 rfl); omega; exact hg.at_ (by omega))) | (apply TL.val; rfl; rfl; (apply V.load_H_row; rfl; rfl; rfl; exact hrow; rfl)) | (apply TL.x; rfl; rfl; (apply X.alloc (d := 8); rfl; rfl; rfl); intro b8 _) | (apply TL.x; rfl; rfl; (apply X.storeTo 0 (enc x); (iterate 10 rfl)); intro _ _) | (apply TL.callE (f := 131) [intV x.set.typ, .bool (decide (x.set.name = z.apex))] Tryz.call131; (iterate 4 rfl); (exact fun _ hs => hpl ▸ c_fitsApex x.set.typ (decide (x.set.name = z.apex)) hs.sat)) | (apply TL.val; rfl; rfl; (first | exact vpure | exact vread))))
      all_goals (try contradiction)
      all_goals (try (exfalso; omega))
      refine N.round (k + 1) (by omega) (by show z.sets.len - (k + 1) < z.sets.len - k; omega) (by (repeat (first | exact True.intro | refine ⟨rfl, ?_⟩ | refine Sub.int rfl (by omega) ?_))) rfl (by (repeat (first | exact List.Sublist.refl _ | exact List.nil_sublist _ | apply List.Sublist.cons_cons | apply List.Sublist.cons)))
    · repeat (any_goals (first | refine T.seq ?_ | refine T.region ?_ | refine TL.nil ?_ | refine N.next ?_ | refine N.exit_same ?_ | refine N.exit_then ?_ | refine T.ret ?_ | refine T.skip ?_ | refine T.exit ?_ | refine T.block ?_ | (apply T.test; rfl; (exact isx); intro _; rotate_left; intro _; rotate_right) | (apply TL.val; rfl; rfl; (first | exact vpure | exact vread)) | (apply TL.x; rfl; rfl; (first | exact xgrow | exact xput); intro _ _)))
      all_goals (try (exfalso; omega))
      exact N.ret_bool rfl (by (exact rvx)) rfl
end Go.Proofs.YthabgdbhgcgemaaGreatDoor
namespace Go.Proofs.YthabgdbhgcgemaaGreatDoor
set_option linter.unusedVariables false
set_option linter.unusedSimpArgs false
open Go Go.RowKit
set_option maxRecDepth 20000
section
variable {κ : Type} {un : κ → κ → Bool} {cuts : κ → Bool}
def stepO (un : κ → κ → Bool) (cuts : κ → Bool) (c : Option κ) (n : κ) : Option κ :=
  match (match c with | some x => if un n x then some x else none | none => none) with
  | some x => some x
  | none => if cuts n then some n else none
theorem layO_cons (c : Option κ) (n : κ) (r : List κ) : layO un cuts c (n :: r) = stepO un cuts c n :: layO un cuts (stepO un cuts c n) r := rfl
theorem layO_at : ∀ (l : List κ) (c : Option κ) (i : Nat) (h : i < l.length), (layO un cuts c l)[i]? = some (stepO un cuts ((if i = 0 then some c else (layO un cuts c l)[i - 1]?).getD none) l[i])
  | [], _, _, h => by simp at h
  | n :: r, c, 0, _ => by rw [layO_cons]; rfl
  | n :: r, c, i + 1, h => by
    have ih := layO_at r (stepO un cuts c n) i (by simpa using h)
    rw [layO_cons, List.getElem?_cons_succ, ih, if_neg (Nat.succ_ne_zero i), Nat.add_sub_cancel]
    cases i with
    | zero => rfl
    | succ i => rw [if_neg (Nat.succ_ne_zero i), List.getElem?_cons_succ]; rfl
theorem layO_mem : ∀ (l : List κ) (c : Option κ) (x : κ), some x ∈ layO un cuts c l → c = some x ∨ x ∈ l
  | [], _, _, h => by simp [layO] at h
  | n :: r, c, x, h => by
    rw [layO_cons] at h
    have hs : ∀ x, stepO un cuts c n = some x → c = some x ∨ x = n := fun x h => by
      unfold stepO at h
      cases c with
      | none =>
        simp only at h
        split at h
        · injection h with h; exact .inr h.symm
        · cases h
      | some y =>
        simp only at h
        by_cases hu : un n y = true
        · rw [if_pos hu] at h; exact .inl h
        · rw [if_neg hu] at h
          simp only at h
          split at h
          · injection h with h; exact .inr h.symm
          · cases h
    rcases List.mem_cons.1 h with h | h
    · rcases hs x h.symm with h | h
      · exact .inl h
      · exact .inr (h ▸ List.mem_cons_self ..)
    · rcases layO_mem r _ x h with h | h
      · rcases hs x h with h | h
        · exact .inl h
        · exact .inr (h ▸ List.mem_cons_self ..)
      · exact .inr (List.mem_cons_of_mem _ h)
end
def prevT (B : List Bytes) (i : Nat) : Bytes := if i = 0 then [] else B.getD (i - 1) []
def keepT (c n : Bytes) : Bytes := if c ≠ [] ∧ inN n c = true then c else []
def stepT (z : ZoneC) (c n : Bytes) : Bytes := if keepT c n = [] then (if isCut z n = true then n else []) else keepT c n
theorem stepO_T {z : ZoneC} {o : Option Bytes} {n : Bytes} (ho : o ≠ some []) : (stepO inN (isCut z) o n).getD [] = stepT z (o.getD []) n := by
  unfold stepO stepT keepT
  cases o with
  | none => simp; split <;> rfl
  | some c =>
    have hc : c ≠ [] := fun e => ho (by rw [e])
    simp only [Option.getD_some]
    by_cases hu : inN n c = true
    · simp [hu, hc]
    · simp [hu]
      split <;> rfl
theorem behZ_name {z : ZoneC} (hO : OneZ z) {x : Bytes} (h : some x ∈ behZ z) : nameOK x = true := by
  unfold behZ at h
  rcases layO_mem _ _ _ h with h | h
  · cases h
  · unfold namesZ at h
    obtain ⟨s, hs, rfl⟩ := List.mem_map.1 h
    exact hO.nameMem hs
theorem behT_get {l : List (Option Bytes)} (i : Nat) : (behT l)[i]?.getD [] = (l[i]?.getD none).getD [] := by
  unfold behT
  rw [List.getElem?_map]
  cases l[i]? <;> rfl
theorem lay_prev {z : ZoneC} (hO : OneZ z) (i : Nat) : prevT (behT (behRZ z)) i = [] ∨ nameOK (prevT (behT (behRZ z)) i) = true := by
  unfold prevT
  split
  · exact .inl rfl
  · rw [List.getD_eq_getElem?_getD, behT_get, beh_eq hO]
    cases h : (behZ z)[i - 1]? with
    | none => exact .inl rfl
    | some o =>
      cases o with
      | none => exact .inl rfl
      | some x => exact .inr (behZ_name hO (List.mem_of_getElem? h))
theorem lay_step {z : ZoneC} (hO : OneZ z) {i : Nat} (hi : i < (namesZ z).length) : (behT (behRZ z))[i]? = some (stepT z (prevT (behT (behRZ z)) i) (namesZ z)[i]) := by
  have hp : prevT (behT (behRZ z)) i = (((if i = 0 then some (none : Option Bytes) else (behZ z)[i - 1]?).getD none).getD []) := by
    unfold prevT
    split
    · rfl
    · rw [List.getD_eq_getElem?_getD, behT_get, beh_eq hO]
  rw [hp, ← stepO_T]
  · rw [beh_eq hO]
    unfold behT
    rw [List.getElem?_map]
    have h := layO_at (un := inN) (cuts := isCut z) (namesZ z) none i hi
    show Option.map _ (behZ z)[i]? = _
    unfold behZ at *
    rw [h]; rfl
  · intro h
    split at h
    · cases h
    · cases h' : (behZ z)[i - 1]? with
      | none => rw [h'] at h; cases h
      | some o =>
        rw [h'] at h
        simp only [Option.getD_some] at h
        subst h
        exact name_ne (behZ_name hO (List.mem_of_getElem? h')) rfl
end Go.Proofs.YthabgdbhgcgemaaGreatDoor
