import Derived.Test.YthabgdbhgcgemaaGreatDoorQBL
namespace Go.Proofs.YthabgdbhgcgemaaGreatDoor
set_option linter.unusedVariables false
set_option linter.unusedSimpArgs false
open Go Go.RowKit
open Enc (enc)
set_option maxRecDepth 20000
structure ZonesOK (l : List ZoneV) : Prop where
  few : l.length ≤ 8
  each : ∀ z ∈ l, ZonedR z.c
  apex : ∀ z ∈ l, ∀ y ∈ l, z.apex = y.apex
  step : ∀ i (h : i + 1 < l.length), beforeS (serialC l[i].c) (serialC l[i + 1].c) = true
  apart : (l.map fun z => serialC z.c).Nodup
theorem ZonesOK.take {l : List ZoneV} (h : ZonesOK l) (m : Nat) : ZonesOK (l.take m) where
  few := Nat.le_trans (by rw [List.length_take]; omega) h.few
  each z hz := h.each z (List.mem_of_mem_take hz)
  apex z hz y hy := h.apex z (List.mem_of_mem_take hz) y (List.mem_of_mem_take hy)
  step i hi := by
    rw [List.length_take] at hi
    rw [List.getElem_take, List.getElem_take]
    exact h.step i (by omega)
  apart := by rw [List.map_take]; exact h.apart.sublist (List.take_sublist _ _)
section
variable {H : Hp} {w : World}
theorem c_tclone1 (e : Signed) (hs : Sat H w) (hg : Enc.good H e) (h1 : e.set.data.len ≤ 1000) (h2 : e.sigs.len ≤ 1000) : Calls Tryz.prog 101 #[sgV e] w (RetF w H (fun p : Hp × Signed => p.2.c = e.c ∧ Enc.good p.1 p.2) (fun p => sgV p.2) (fun p => p.1)) := by
  refine T.enter (vs := [sgV e]) (H := H) Tryz.func101 rfl rfl rfl hs ?_
  repeat (any_goals (first | refine T.seq ?_ | refine T.region ?_ | refine TL.nil ?_ | refine N.next ?_ | refine T.ret ?_ | (apply TL.x; rfl; rfl; (apply X.box (d := 1) (cs := enc e); rfl; rfl; rfl); intro b1 _) | (apply TL.x; rfl; rfl; (apply X.callFE (f := 42) [e.set.data.v] Tryz.call42; rfl; rfl; rfl; exact (fun _ hs => c_CloneDatum e.set.data _ _ hs.sat hg.1.2.2.2 h1)); intro p1 hp1; have hg2 := Enc.mono hp1.2 hg) | (apply TL.x; rfl; rfl; (apply X.callFE (f := 43) [e.sigs.v] Tryz.call43; rfl; rfl; rfl; exact (fun _ hs => c_CloneSig e.sigs _ _ hs.sat hg2.2 h2)); intro p2 hp2) | (apply TL.x; rfl; rfl; (apply X.storeTo 1 (enc (⟨⟨e.set.name, e.set.typ, e.set.life, p1.2⟩, e.sigs⟩ : Signed)); (iterate 10 rfl)); intro _ _) | (apply TL.x; rfl; rfl; (apply X.storeTo 1 (enc (⟨⟨e.set.name, e.set.typ, e.set.life, p1.2⟩, p2.2⟩ : Signed)); (iterate 10 rfl)); intro _ _) | (apply TL.x; rfl; rfl; (apply X.storeTo 0 (enc (⟨⟨e.set.name, e.set.typ, e.set.life, p1.2⟩, p2.2⟩ : Signed)); (iterate 10 rfl)); intro _ _) | (apply TL.val; rfl; rfl; (first | exact vpure | exact vread)) | (apply TL.x; rfl; rfl; (first | exact xgrow | exact xput); intro _ _)))
  apply N.ret1; rfl; (exact rvx)
  intro w1 hst
  obtain ⟨⟨a1, a2⟩, a3⟩ := hp1
  obtain ⟨⟨b1, b2⟩, b3⟩ := hp2
  refine ⟨(p2.1, ⟨⟨e.set.name, e.set.typ, e.set.life, p1.2⟩, p2.2⟩), ⟨?_, ?_⟩, rfl, hst.fresh⟩
  · unfold Signed.c RSet.c
    simp only [a1, b1]
  · exact ⟨⟨hg.1.1, hg.1.2.1, hg.1.2.2.1, a2.mono b3⟩, b2⟩
set_option maxHeartbeats 4000000 in
theorem c_tcollectS (s : Slc Signed) (hb : s.len ≤ 20000) (hsm : ∀ x ∈ s.els, x.set.data.len ≤ 1000 ∧ x.sigs.len ≤ 1000) (hs : Sat H w) (hg : s.Good H) :
    Calls Tryz.prog 100 #[s.v, .func (.func 101) #[] #[]] w (RetF w H (fun p : Hp × Slc Signed => p.2.els.map Signed.c = s.els.map Signed.c ∧ p.2.Good p.1) (fun p => p.2.v) (fun p => p.1)) := by
  have hlen := hg.len
  have hlim := hg.lim
  refine T.enter (vs := [s.v, .func (.func 101) #[] #[]]) (H := H) Tryz.func100 rfl rfl rfl hs ?_
  repeat (any_goals (first | refine T.seq ?_ | refine T.region ?_ | refine TL.nil ?_ | refine N.next ?_ | refine T.block ?_ | (apply TL.val; rfl; rfl; (first | exact vpure | exact vread))))
  refine T.nilRow 86 5 ?_
  refine T.loop (G := Value × Nat × Hp × List Signed) (fun q => [(1, .func (.func 101) #[] #[]), (5, q.1), (8, s.v), (9, intV s.len), (10, intV q.2.1)]) (fun q => q.2.2.1) (fun q => [.row q.1 86 5 q.2.2.2.length (encs q.2.2.2)]) (fun q => q.2.1 ≤ s.len ∧ H.le q.2.2.1 ∧ q.2.2.2.map Signed.c = (s.els.take q.2.1).map Signed.c ∧ (∀ y ∈ q.2.2.2, Enc.good q.2.2.1 y) ∧ q.2.2.2.length ≤ q.2.1) (fun q => s.len - q.2.1) (.slice none 0 0, 0, H, []) ⟨Nat.zero_le _, .refl _, rfl, fun y hy => (by cases hy), Nat.zero_le _⟩ (by (repeat (first | exact True.intro | refine ⟨rfl, ?_⟩ | refine Sub.int rfl (by omega) ?_))) rfl (by (repeat (first | exact List.Sublist.refl _ | exact List.nil_sublist _ | apply List.Sublist.cons_cons | apply List.Sublist.cons))) ?_
  rintro ⟨v, k, H1, ys⟩ ⟨hk, hle, hmap, hgood, hyl⟩
  simp only at hk hle hmap hgood hyl ⊢
  by_cases hlt : k < s.len
  · have hkl : k < s.els.length := by omega
    have hg1 := hg.mono hle
    have hrow := hg1.row (k := k) hlt
    have hxg := hg1.els _ (List.getElem_mem hkl)
    have hxs := hsm _ (List.getElem_mem hkl)
    have hup : (s.els.take (k + 1)).map Signed.c = (s.els.take k).map Signed.c ++ [s.els[k].c] := by
      rw [List.take_succ_eq_append_getElem hkl, List.map_append]; rfl
    obtain ⟨x, hx⟩ : ∃ x, s.els[k]'hkl = x := ⟨_, rfl⟩
    rw [hx] at hup hxg hxs
    try rw [hx] at hrow
    repeat (any_goals (first | refine T.seq ?_ | refine T.region ?_ | refine TL.nil ?_ | refine N.next ?_ | refine N.inBlock ?_ | refine N.exit_same ?_ | refine N.exit_then ?_ | refine T.ret ?_ | refine T.skip ?_ | refine T.exit ?_ | refine T.block ?_ | (apply T.test; rfl; (exact isx); intro _; rotate_left; intro _; rotate_right) | (apply TL.val; rfl; rfl; (apply V.elem (j := k); (iterate 6 rfl); omega; exact hg1.at_ (by omega))) | (apply TL.val; rfl; rfl; (apply V.load_H_row; rfl; rfl; rfl; exact hrow; rfl)) | (apply TL.x; rfl; rfl; (apply X.alloc (d := 7); rfl; rfl; rfl); intro b7 _) | (apply TL.x; rfl; rfl; (apply X.storeTo 0 (enc x); (iterate 10 rfl)); intro _ _) | (apply TL.x; rfl; rfl; (apply X.callFV (sgV x) []; rfl; rfl; rfl; exact Tryz.call101; exact fun _ hs => c_tclone1 x hs.sat hxg hxs.1 hxs.2); rintro ⟨H2, y⟩ ⟨⟨hy1, hy2⟩, hle2⟩) | (apply TL.x; rfl; rfl; (apply X.buildSlice1 (d := 18); (iterate 8 rfl)); intro b18 _) | (apply TL.x; rfl; rfl; (apply X.append1 2; (iterate 9 rfl); exact List.Mem.head _; rfl; rfl; rfl; (refine Nat.le_trans (Nat.mul_le_mul_right _ (show _ ≤ 20001 by omega)) ?_; decide); omega); intro pa _) | (apply TL.val; rfl; rfl; (first | exact vpure | exact vread))))
    all_goals (try contradiction)
    all_goals (try (exfalso; omega))
    refine N.round (.slice (some ⟨pa.1, 0, none⟩) (ys.length + 1) pa.2, k + 1, H2, ys ++ [y]) ⟨by show k + 1 ≤ _; omega, hle.trans hle2, ?_, fun z hz => ?_, by simp only [List.length_append, List.length_cons, List.length_nil]; omega⟩ (by show s.len - (k + 1) < s.len - k; omega) (by (repeat (first | exact True.intro | refine ⟨rfl, ?_⟩ | refine Sub.int rfl (by omega) ?_))) rfl ?_
    · simp only [hup, List.map_append, hmap, List.map_cons, List.map_nil, hy1]
    · rcases List.mem_append.1 hz with hz | hz
      · exact Enc.mono hle2 (hgood z hz)
      · rw [List.mem_singleton.1 hz]; exact hy2
    · simp only [List.length_append, List.length_cons, List.length_nil, Nat.zero_add, encs_snoc]
      (repeat (first | exact List.Sublist.refl _ | exact List.nil_sublist _ | apply List.Sublist.cons_cons | apply List.Sublist.cons))
  · have hke : k = s.len := by omega
    subst hke
    rw [List.take_of_length_le (by omega)] at hmap
    repeat (any_goals (first | refine T.seq ?_ | refine T.region ?_ | refine TL.nil ?_ | refine N.next ?_ | refine N.exit_same ?_ | refine N.exit_then ?_ | refine T.ret ?_ | refine T.skip ?_ | refine T.exit ?_ | refine T.block ?_ | (apply T.test; rfl; (exact isx); intro _; rotate_left; intro _; rotate_right) | (apply TL.val; rfl; rfl; (first | exact vpure | exact vread))))
    all_goals (try (exfalso; omega))
    exact N.ret1 rfl (by (exact rvx)) fun w hst => retO_F (φ := fun l : List Signed => l.map Signed.c = s.els.map Signed.c) ⟨(H1, v, ys), ⟨hmap, hgood⟩, rfl, hst⟩
theorem c_tcloneZone (z : ZoneV) (hb : z.sets.len ≤ 20000) (hsm : ∀ x ∈ z.sets.els, x.set.data.len ≤ 1000 ∧ x.sigs.len ≤ 1000) (hs : Sat H w) (hg : Enc.good H z) :
    Calls Tryz.prog 59 #[.agg (enc z).toArray] w (RetF w H (fun p : Hp × ZoneV => p.2.c = z.c ∧ Enc.good p.1 p.2) (fun p => .agg (enc p.2).toArray) (fun p => p.1)) := by
  refine T.enter (vs := [.agg (enc z).toArray]) (H := H) Tryz.func59 rfl rfl rfl hs ?_
  repeat (any_goals (first | refine T.seq ?_ | refine T.region ?_ | (apply T.regionD wide; rfl) | refine TL.nil ?_ | refine N.next ?_ | refine T.ret ?_ | (apply TL.x; rfl; rfl; (apply X.box (d := 1) (cs := enc z); rfl; rfl; rfl); intro b1 _) | (apply TL.x; rfl; rfl; (apply X.alloc (d := 2); rfl; rfl; rfl); intro b2 _) | (apply GS.grow; rfl; rfl; (apply X.callFE (f := 100) [z.sets.v, .func (.func 101) #[] #[]] Tryz.call100; rfl; rfl; rfl; exact (fun _ hs => c_tcollectS z.sets hb hsm hs.sat hg.2)); rintro ⟨H1, sl⟩ ⟨⟨hs1, hs2⟩, hle1⟩) | (apply GT.pure; (iterate 4 rfl); (apply V.build; (iterate 6 rfl)); decide +kernel) | (apply GS.eff; rfl; decide +kernel; rfl; (apply X.storeTo 0 (enc (⟨z.apex, sl⟩ : ZoneV)); (iterate 10 rfl)); intro _ _) | (apply GT.pure; (iterate 4 rfl); (first | exact vpure); decide +kernel) | (apply GT.read; (iterate 4 rfl); (first | exact vpure | exact vread); decide +kernel) | (apply GT.done; decide +kernel; apply N.ofQ) | (apply GT.adv; rfl) | (apply GT.fork1; decide +kernel)))
  all_goals exact N.ret1 rfl (by (exact rvx)) fun w1 hst => ⟨(H1, ⟨z.apex, sl⟩), ⟨by show (⟨z.apex, sl.els.map Signed.c⟩ : ZoneC) = _; rw [hs1]; rfl, hg.1, hs2⟩, rfl, hst.fresh⟩
theorem c_versions1 (z : ZoneV) (h : ZonedR z.c) {n : Int} (hser : serialC z.c = n) (hs : Sat H w) (hR : Rules H) (hz : Enc.good H z) : Calls Tryz.prog 99 #[.agg (enc z).toArray] w (Ret w (intV n)) := by
  refine T.enter (vs := [.agg (enc z).toArray]) (H := H) Tryz.func99 rfl rfl rfl hs ?_
  repeat (any_goals (first | refine T.seq ?_ | refine T.region ?_ | refine TL.nil ?_ | refine N.next ?_ | refine T.ret ?_ | (apply TL.x; rfl; rfl; (apply X.box (d := 1) (cs := enc z); rfl; rfl; rfl); intro b1 _) | (apply TL.callE (f := 26) [.agg (enc z).toArray] Tryz.call26; (iterate 4 rfl); (exact fun _ hs => c_zoneSerial z h hser hs.sat hR hz)) | (apply TL.val; rfl; rfl; (first | exact vpure | exact vread))))
  exact N.ret_int rfl (by (exact rvx)) rfl
def serV (z : ZoneV) : Int := serialC z.c
set_option maxHeartbeats 4000000 in
theorem c_tcollectZ (s : Slc ZoneV) (hb : s.len ≤ 8) (hz : ∀ z ∈ s.els, ZonedR z.c) (hs : Sat H w) (hR : Rules H) (hg : s.Good H) :
    Calls Tryz.prog 98 #[s.v, .func (.func 99) #[] #[]] w (RetF w H (fun p : Hp × Slc Int => p.2.els = s.els.map serV ∧ p.2.Good p.1) (fun p => p.2.v) (fun p => p.1)) := by
  have hlen := hg.len
  have hlim := hg.lim
  have hml : (s.els.map serV).length = s.len := by rw [List.length_map, hlen]
  refine T.enter (vs := [s.v, .func (.func 99) #[] #[]]) (H := H) Tryz.func98 rfl rfl rfl hs ?_
  repeat (any_goals (first | refine T.seq ?_ | refine T.region ?_ | refine TL.nil ?_ | refine N.next ?_ | refine T.block ?_ | (apply TL.val; rfl; rfl; (first | exact vpure | exact vread))))
  refine T.nilRow 3 1 ?_
  refine T.loop (G := Value × Nat) (fun q => [(1, .func (.func 99) #[] #[]), (5, q.1), (8, s.v), (9, intV s.len), (10, intV q.2)]) (fun _ => H) (fun q => [.row q.1 3 1 q.2 (encs ((s.els.map serV).take q.2))]) (fun q => q.2 ≤ s.len) (fun q => s.len - q.2) (.slice none 0 0, 0) (Nat.zero_le _) (by (repeat (first | exact True.intro | refine ⟨rfl, ?_⟩ | refine Sub.int rfl (by omega) ?_))) rfl (by (repeat (first | exact List.Sublist.refl _ | exact List.nil_sublist _ | apply List.Sublist.cons_cons | apply List.Sublist.cons))) ?_
  rintro ⟨v, k⟩ hk
  simp only at hk ⊢
  by_cases hlt : k < s.len
  · have hkl : k < s.els.length := by omega
    have hrow := hg.row (k := k) hlt
    have hxg := hg.els _ (List.getElem_mem hkl)
    have hxz := hz _ (List.getElem_mem hkl)
    have hup : (s.els.map serV).take (k + 1) = (s.els.map serV).take k ++ [serV s.els[k]] := by
      rw [List.take_succ_eq_append_getElem (by omega), List.getElem_map]
    obtain ⟨x, hx⟩ : ∃ x, s.els[k]'hkl = x := ⟨_, rfl⟩
    rw [hx] at hup hxg hxz
    try rw [hx] at hrow
    obtain ⟨nx, hnx⟩ : ∃ nx, serialC x.c = nx := ⟨_, rfl⟩
    have hup : (s.els.map serV).take (k + 1) = (s.els.map serV).take k ++ [nx] := by rw [hup]; unfold serV; rw [hnx]
    repeat (any_goals (first | refine T.seq ?_ | refine T.region ?_ | refine TL.nil ?_ | refine N.next ?_ | refine N.inBlock ?_ | refine N.exit_same ?_ | refine N.exit_then ?_ | refine T.ret ?_ | refine T.skip ?_ | refine T.exit ?_ | refine T.block ?_ | (apply T.test; rfl; (exact isx); intro _; rotate_left; intro _; rotate_right) | (apply TL.val; rfl; rfl; (apply V.elem (j := k); (iterate 6 rfl); omega; exact hg.at_ (by omega))) | (apply TL.val; rfl; rfl; (apply V.load_H_row; rfl; rfl; rfl; exact hrow; rfl)) | (apply TL.x; rfl; rfl; (apply X.alloc (d := 7); rfl; rfl; rfl); intro b7 _) | (apply TL.x; rfl; rfl; (apply X.storeTo 0 (enc x); (iterate 10 rfl)); intro _ _) | (apply TL.call; (iterate 4 rfl); exact Tryz.call99; exact fun _ hs => c_versions1 x hxz hnx hs.sat hR hxg) | (apply TL.x; rfl; rfl; (apply X.buildSlice1 (d := 18); (iterate 8 rfl)); intro b18 _) | (apply TL.x; rfl; rfl; (apply X.append1 2; (iterate 9 rfl); exact List.Mem.head _; rfl; rfl; rfl; (refine Nat.le_trans (Nat.mul_le_mul_right _ (show _ ≤ 20001 by omega)) ?_; decide); omega); intro pa _) | (apply TL.val; rfl; rfl; (first | exact vpure | exact vread))))
    all_goals (try contradiction)
    all_goals (try (exfalso; omega))
    refine N.round (.slice (some ⟨pa.1, 0, none⟩) (k + 1) pa.2, k + 1) (by show k + 1 ≤ _; omega) (by show s.len - (k + 1) < s.len - k; omega) (by (repeat (first | exact True.intro | refine ⟨rfl, ?_⟩ | refine Sub.int rfl (by omega) ?_))) rfl ?_
    simp only [hup, encs_snoc]
    (repeat (first | exact List.Sublist.refl _ | exact List.nil_sublist _ | apply List.Sublist.cons_cons | apply List.Sublist.cons))
  · have hke : k = s.len := by omega
    subst hke
    have htk : (s.els.map serV).take s.len = s.els.map serV := List.take_of_length_le (by omega)
    rw [htk]
    refine T.frzRow 0 (els := s.els.map serV) rfl rfl hml (fun y hy => ?_) fun H2 sl e1 e2 e3 hle2 => ?_
    · obtain ⟨z, hzm, rfl⟩ := List.mem_map.1 hy
      have := (hz z hzm).serial
      show I64 (serialC z.c); unfold I64; omega
    · subst e1
      repeat (any_goals (first | refine T.seq ?_ | refine T.region ?_ | refine TL.nil ?_ | refine N.next ?_ | refine N.exit_same ?_ | refine N.exit_then ?_ | refine T.ret ?_ | refine T.skip ?_ | refine T.exit ?_ | refine T.block ?_ | (apply T.test; rfl; (exact isx); intro _; rotate_left; intro _; rotate_right) | (apply TL.val; rfl; rfl; (first | exact vpure | exact vread))))
      all_goals (try (exfalso; omega))
      exact N.ret1 rfl (by (exact rvx)) fun w hst => ⟨(H2, sl), ⟨e2, e3⟩, rfl, hst.fresh⟩
set_option maxHeartbeats 4000000 in
theorem c_tversions (s : Slc ZoneV) (hz : ZonesOK s.els) (hs : Sat H w) (hR : Rules H) (hg : s.Good H) :
    Calls Tryz.prog 57 #[s.v] w (RetF w H (fun p : Hp × Slc Int => p.2.els = s.els.map serV ∧ p.2.Good p.1) (fun p => .tuple #[p.2.v, .bool true]) (fun p => p.1)) := by
  have hlen := hg.len
  have hlim := hg.lim
  have hb := hz.few
  refine T.enter (vs := [s.v]) (H := H) Tryz.func57 rfl rfl rfl hs ?_
  repeat (any_goals (first | refine T.seq ?_ | refine T.region ?_ | refine TL.nil ?_ | refine N.next ?_ | refine T.block ?_ | (apply TL.val; rfl; rfl; (first | exact vpure | exact vread))))
  refine T.loop (G := Nat) (fun k => [(0, s.v), (10, s.v), (11, intV s.len), (12, intV k)]) (fun _ => H) (fun _ => []) (fun k => k ≤ s.len) (fun k => s.len - k) 0 (Nat.zero_le _) (by (repeat (first | exact True.intro | refine ⟨rfl, ?_⟩ | refine Sub.int rfl (by omega) ?_))) rfl (by (repeat (first | exact List.Sublist.refl _ | exact List.nil_sublist _ | apply List.Sublist.cons_cons | apply List.Sublist.cons))) ?_
  intro k hk
  by_cases hlt : k < s.len
  · have hkl : k < s.els.length := by omega
    have hrow := hg.row (k := k) hlt
    have hxg := hg.els _ (List.getElem_mem hkl)
    have hxz := hz.each _ (List.getElem_mem hkl)
    have hxa := hz.apex _ (List.getElem_mem hkl) _ (List.getElem_mem (show 0 < s.els.length by omega))
    have h0 : H.cell s.b (s.o + 0 * 2 + 0) = some (strV (s.els[0]'(by omega)).apex) := hg.cell (k := 0) (j := 0) (by omega) rfl
    obtain ⟨x, hx⟩ : ∃ x, s.els[k]'hkl = x := ⟨_, rfl⟩
    rw [hx] at hxg hxz hxa
    try rw [hx] at hrow
    rw [← hxa] at h0
    repeat (any_goals (first | refine T.seq ?_ | refine T.region ?_ | (apply T.regionD wide; rfl) | refine TL.nil ?_ | refine N.next ?_ | refine N.inBlock ?_ | refine N.exit_same ?_ | refine N.exit_then ?_ | refine N.ret_then ?_ | refine N.ret_block ?_ | refine T.ret ?_ | refine T.skip ?_ | refine T.exit ?_ | refine T.block ?_ | (apply T.test; rfl; (exact isx); intro _; rotate_left; intro _; rotate_right) | (apply TL.val; rfl; rfl; (apply V.elem (j := k); (iterate 6 rfl); omega; exact hg.at_ (by omega))) | (apply TL.val; rfl; rfl; (apply V.load_H_row; rfl; rfl; rfl; exact hrow; rfl)) | (apply TL.x; rfl; rfl; (apply X.alloc (d := 5); rfl; rfl; rfl); intro b5 _) | (apply TL.x; rfl; rfl; (apply X.storeTo 0 (enc x); (iterate 10 rfl)); intro _ _) | (apply GT.callE (f := 33) [.agg (enc x).toArray] Tryz.call33; (iterate 6 rfl); (exact fun _ hs => c_zoneValid x hxz hs.sat hR hxg); decide +kernel) | (apply GT.pure; (iterate 4 rfl); (apply V.elem (j := 0); (iterate 6 rfl); omega; exact hg.at_ (by omega)); decide +kernel) | (apply GT.read; (iterate 4 rfl); (apply V.load_H; rfl; rfl; rfl; exact h0); decide +kernel) | (apply TL.val; rfl; rfl; (first | exact vpure | exact vread)) | (apply GT.pure; (iterate 4 rfl); (first | exact vpure); decide +kernel) | (apply GT.read; (iterate 4 rfl); (first | exact vpure | exact vread); decide +kernel) | (apply GT.done; decide +kernel; apply N.ofQ)))
    all_goals (try contradiction)
    all_goals (try (exfalso; omega))
    all_goals first
      | exact N.round (k + 1) (by omega) (by show s.len - (k + 1) < s.len - k; omega) (by (repeat (first | exact True.intro | refine ⟨rfl, ?_⟩ | refine Sub.int rfl (by omega) ?_))) rfl (by (repeat (first | exact List.Sublist.refl _ | exact List.nil_sublist _ | apply List.Sublist.cons_cons | apply List.Sublist.cons)))
      | (exfalso; simp at *; done)
      | trace_state
  · repeat (any_goals (first | refine T.seq ?_ | refine T.region ?_ | (apply T.regionD wide; rfl) | refine TL.nil ?_ | refine N.next ?_ | refine N.exit_same ?_ | refine N.exit_then ?_ | refine T.skip ?_ | refine T.exit ?_ | refine T.block ?_ | (apply T.test; rfl; (exact isx); intro _; rotate_left; intro _; rotate_right) | (apply TL.x; rfl; rfl; (apply X.callFE (f := 98) [s.v, .func (.func 99) #[] #[]] Tryz.call98; rfl; rfl; rfl; exact (fun _ hs => c_tcollectZ s (by omega) hz.each hs.sat hR hg)); rintro ⟨H2, sl⟩ ⟨⟨e2, e3⟩, hle2⟩; have e3 : sl.Good H2 := e3; have e2 : sl.els = s.els.map serV := e2) | (apply TL.val; rfl; rfl; (first | exact vpure | exact vread)) | (apply GT.read; (iterate 4 rfl); (first | exact vpure | exact vread); decide +kernel) | (apply TL.x; rfl; rfl; (first | exact xgrow | exact xput); intro _ _) | (apply GT.fork1; decide +kernel)))
    all_goals (try contradiction)
    all_goals (try (exfalso; omega))
    have hsl := e3.len
    rw [e2, List.length_map, hlen] at hsl
    refine T.loop (G := Nat) (fun k => [(6, sl.v), (7, intV k)]) (fun _ => H2) (fun _ => []) (fun k => 1 ≤ k) (fun k => sl.len - k) 1 (Nat.le_refl _) (by (repeat (first | exact True.intro | refine ⟨rfl, ?_⟩ | refine Sub.int rfl (by omega) ?_))) rfl (by (repeat (first | exact List.Sublist.refl _ | exact List.nil_sublist _ | apply List.Sublist.cons_cons | apply List.Sublist.cons))) ?_
    intro k hk
    by_cases hlt : k < sl.len
    · have hkl : k < s.els.length := by omega
      have hkl0 : k - 1 < s.els.length := by omega
      have hst := hz.step (k - 1) (by omega)
      simp only [show k - 1 + 1 = k by omega] at hst
      have r1 := (hz.each _ (List.getElem_mem hkl0)).serial
      have r2 := (hz.each _ (List.getElem_mem hkl)).serial
      have c1 : H2.cell sl.b (sl.o + (k - 1) * 1) = some (intV (serialC (s.els[k - 1]'hkl0).c)) := by
        have := e3.cell0 (k := k - 1) (by omega) (v := intV (sl.els[k - 1]'(by rw [e2, List.length_map]; exact hkl0))) rfl
        refine this.trans ?_; congr 2
        simp only [e2, List.getElem_map, serV]
      have c2 : H2.cell sl.b (sl.o + k * 1) = some (intV (serialC (s.els[k]'hkl).c)) := by
        have := e3.cell0 (k := k) (by omega) (v := intV (sl.els[k]'(by rw [e2, List.length_map]; exact hkl))) rfl
        refine this.trans ?_; congr 2
        simp only [e2, List.getElem_map, serV]
      obtain ⟨n1, hn1⟩ : ∃ n1, serialC (s.els[k - 1]'hkl0).c = n1 := ⟨_, rfl⟩
      obtain ⟨n2, hn2⟩ : ∃ n2, serialC (s.els[k]'hkl).c = n2 := ⟨_, rfl⟩
      rw [hn1] at c1 r1 hst
      rw [hn2] at c2 r2 hst
      repeat (any_goals (first | refine T.seq ?_ | refine T.region ?_ | (apply T.regionD wide; rfl) | refine TL.nil ?_ | refine N.next ?_ | refine N.inBlock ?_ | refine N.exit_same ?_ | refine N.exit_then ?_ | refine T.ret ?_ | refine T.skip ?_ | refine T.exit ?_ | refine T.block ?_ | (apply T.cond_false; rfl) | (apply T.test; rfl; (exact isx); intro _; rotate_left; intro _; rotate_right) | (apply GT.pure; (iterate 4 rfl); (apply V.elem (j := k - 1); (iterate 5 rfl); omega; omega; exact e3.at_ (by omega)); decide +kernel) | (apply GT.pure; (iterate 4 rfl); (apply V.elem (j := k); (iterate 6 rfl); omega; exact e3.at_ (by omega)); decide +kernel) | (apply GT.read; (iterate 4 rfl); (apply V.load_H; rfl; rfl; rfl; first | exact c1 | exact c2); decide +kernel) | (apply GT.callE (f := 34) [intV n1, intV n2] Tryz.call34; (iterate 6 rfl); (exact fun _ hs => c_dLess n1 n2 r1 r2 hst hs.sat); decide +kernel) | (apply TL.val; rfl; rfl; (first | exact vpure | exact vread)) | (apply GT.pure; (iterate 4 rfl); (first | exact vpure); decide +kernel) | (apply GT.done; decide +kernel; apply N.ofQ)))
      all_goals (try contradiction)
      all_goals (try (exfalso; omega))
      all_goals first
        | exact N.round (k + 1) (by omega) (by show sl.len - (k + 1) < sl.len - k; omega) (by (repeat (first | exact True.intro | refine ⟨rfl, ?_⟩ | refine Sub.int rfl (by omega) ?_))) rfl (by (repeat (first | exact List.Sublist.refl _ | exact List.nil_sublist _ | apply List.Sublist.cons_cons | apply List.Sublist.cons)))
        | trace_state
    · repeat (any_goals (first | refine T.seq ?_ | refine T.region ?_ | (apply T.regionD wide; rfl) | refine TL.nil ?_ | refine N.next ?_ | refine N.exit_same ?_ | refine N.exit_then ?_ | refine T.ret ?_ | refine T.skip ?_ | refine T.exit ?_ | refine T.block ?_ | (apply T.test; rfl; (exact isx); intro _; rotate_left; intro _; rotate_right) | (apply TL.val; rfl; rfl; (first | exact vpure | exact vread)) | (apply GT.pure; (iterate 4 rfl); (first | exact vpure); decide +kernel) | (apply GT.read; (iterate 4 rfl); (first | exact vpure | exact vread); decide +kernel) | (apply GT.fork1; decide +kernel)))
      all_goals (try (exfalso; omega))
      exact N.ret2 rfl (by (exact rvx)) (by (exact rvx)) fun w hst => ⟨(H2, sl), ⟨e2, e3⟩, rfl, hst.fresh⟩
end
end Go.Proofs.YthabgdbhgcgemaaGreatDoor
