import Derived.Test.YthabgdbhgcgemaaGreatDoorQBP
import Derived.Test.YthabgdbhgcgemaaGreatDoorQBM
namespace Go.Proofs.YthabgdbhgcgemaaGreatDoor
set_option linter.unusedVariables false
set_option linter.unusedSimpArgs false
open Go Go.RowKit
open Enc (enc)
set_option maxRecDepth 20000
def SecV.nil : SecV := ⟨false, ZoneV.nil, 0⟩
theorem nil_zone {H : Hp} : Enc.good H ZoneV.nil := ⟨show LenOk ([] : Bytes) by decide, Slc.nil_good⟩
def offCells (ds : Slc DeltaV) : List Value := [.bool false, strV [], .slice none 0 0, .slice ds.A ds.len ds.cap]
def offFull (z : ZoneV) : List Value := [.bool true, strV z.apex, .slice z.sets.A z.sets.len z.sets.cap, .slice none 0 0]
section
variable {H : Hp} {w : World}
theorem c_nothingNil (hs : Sat H w) : Calls Tryz.prog 55 #[.agg (enc ZoneV.nil).toArray] w (Ret w (.bool true)) := by
  have := c_nothing ZoneV.nil hs nil_zone
  rwa [show decide (ZoneV.nil.apex = [] ∧ ZoneV.nil.sets.len = 0) = true from by decide] at this
theorem c_secNil (hs : Sat H w) : Calls Tryz.prog 25 #[.agg (enc SecV.nil).toArray] w (Ret w (.bool true)) := by
  refine T.enter (vs := [.agg (enc SecV.nil).toArray]) (H := H) Tryz.func25 rfl rfl rfl hs ?_
  repeat (any_goals (first | refine T.seq ?_ | refine T.region ?_ | refine TL.nil ?_ | refine N.next ?_ | refine T.ret ?_ | refine T.skip ?_ | (apply T.cond_false; rfl) | (apply TL.x; rfl; rfl; (apply X.box (d := 1) (cs := [.bool false, strV [], .slice none 0 0, intV 0]); rfl; rfl; rfl); intro b1 _) | (apply TL.callE (f := 55) [.agg (enc ZoneV.nil).toArray] Tryz.call55; (iterate 4 rfl); (exact fun _ hs => c_nothingNil hs.sat)) | (apply TL.val; rfl; rfl; (first | exact vpure | exact vread))))
  all_goals (try contradiction)
  all_goals (try (exfalso; omega))
  all_goals exact N.ret_bool rfl (by (exact rvx)) rfl
theorem c_secHas (s : SecV) (hh : s.has = true) (hz : ZonedR s.zone.c) (hu : 0 ≤ s.seen ∧ s.seen ≤ 10000000) (hs : Sat H w) (hR : Rules H) (hg : Enc.good H s) : Calls Tryz.prog 25 #[.agg (enc s).toArray] w (Ret w (.bool true)) := by
  refine T.enter (vs := [.agg (enc s).toArray]) (H := H) Tryz.func25 rfl rfl rfl hs ?_
  repeat (any_goals (first | refine T.seq ?_ | refine T.region ?_ | refine TL.nil ?_ | refine N.next ?_ | refine N.ret_then ?_ | refine T.ret ?_ | refine T.skip ?_ | (apply T.cond_true; rfl) | (apply T.test; rfl; (exact isx); intro _; rotate_left; intro _; rotate_right) | (apply TL.skip; rfl; rfl; rfl) | (apply TL.x; rfl; rfl; (apply X.box (d := 1) (cs := enc s); rfl; rfl; rfl); intro b1 _) | (apply TL.callE (f := 33) [.agg (enc s.zone).toArray] Tryz.call33; (iterate 4 rfl); (exact fun _ hs => c_zoneValid s.zone hz hs.sat hR hg.1)) | (apply TL.val; rfl; rfl; (first | exact vpure | exact vread)) | (apply TL.guard; rfl; rfl; rfl; (exact isx); intro _; rotate_left; intro _; rotate_right)))
  all_goals (try (have hq : s.has = false := (by assumption); rw [hh] at hq; cases hq))
  all_goals (try contradiction)
  all_goals (try (exfalso; omega))
  all_goals exact N.ret_bool rfl (by (exact rvx)) rfl
theorem c_offerOKFull (z : ZoneV) (hz : ZonedR z.c) (hs : Sat H w) (hR : Rules H) (hg : Enc.good H z) : Calls Tryz.prog 61 #[.agg (offFull z).toArray] w (Ret w (.bool true)) := by
  refine T.enter (vs := [.agg (offFull z).toArray]) (H := H) Tryz.func61 rfl rfl rfl hs ?_
  repeat (any_goals (first | refine T.seq ?_ | refine T.region ?_ | refine TL.nil ?_ | refine N.next ?_ | refine N.ret_then ?_ | refine T.ret ?_ | (apply T.cond_true; rfl) | (apply TL.x; rfl; rfl; (apply X.box (d := 1) (cs := offFull z); rfl; rfl; rfl); intro b1 _) | (apply TL.callE (f := 33) [.agg (enc z).toArray] Tryz.call33; (iterate 4 rfl); (exact fun _ hs => c_zoneValid z hz hs.sat hR hg)) | (apply TL.val; rfl; rfl; (apply V.lenE; (iterate 5 rfl))) | (apply TL.val; rfl; rfl; (apply V.eqlT; rfl; rfl)) | (apply TL.val; rfl; rfl; (first | exact vpure | exact vread))))
  all_goals (try contradiction)
  all_goals exact N.ret_bool rfl (by (exact rvx)) rfl
set_option maxHeartbeats 4000000 in
theorem c_offerOKDeltas (l : List ZoneV) (k : Nat) (ds : Slc DeltaV) (hz : ZonesOK l) (hc : ChainOK l k ds.els) (hs : Sat H w) (hR : Rules H) (hg : ds.Good H) : Calls Tryz.prog 61 #[.agg (offCells ds).toArray] w (Ret w (.bool true)) := by
  have hlen := hg.len
  have hlim := hg.lim
  have hcl := hc.len
  have hfew := hz.few
  have hform : ∀ i (h : i < ds.els.length), FormV ds.els[i] ∧ ds.els[i].apex = (l[k]'(by omega)).apex := fun i h => by
    have h1 := hc.each i h (by omega) (by omega)
    exact ⟨form_of (hz.each _ (List.getElem_mem _)) (hz.each _ (List.getElem_mem _)) (hz.step (k + i) (by omega)) h1, h1.apex.trans (hz.apex _ (List.getElem_mem _) _ (List.getElem_mem _))⟩
  have hchain : ∀ i (h : i + 1 < ds.els.length), ds.els[i + 1].frm = (ds.els[i]'(by omega)).to := fun i h => by
    have h1 := hc.each i (by omega) (by omega) (by omega)
    have h2 := hc.each (i + 1) h (by omega) (by omega)
    rw [h2.frm, h1.to]
    rfl
  refine T.enter (vs := [.agg (offCells ds).toArray]) (H := H) Tryz.func61 rfl rfl rfl hs ?_
  repeat (any_goals (first | refine T.seq ?_ | refine T.region ?_ | refine TL.nil ?_ | refine N.next ?_ | refine N.ret_then ?_ | refine T.ret ?_ | refine T.skip ?_ | refine T.block ?_ | (apply T.cond_false; rfl) | (apply T.test; rfl; (exact isx); intro _; rotate_left; intro _; rotate_right) | (apply TL.x; rfl; rfl; (apply X.box (d := 1) (cs := offCells ds); rfl; rfl; rfl); intro b1 _) | (apply TL.callE (f := 55) [.agg (enc ZoneV.nil).toArray] Tryz.call55; (iterate 4 rfl); (exact fun _ hs => c_nothingNil hs.sat)) | (apply TL.val; rfl; rfl; (first | exact vpure | exact vread))))
  all_goals (try contradiction)
  all_goals (try (exfalso; omega))
  refine T.loop (G := Nat) (fun i => [(1, .pointer (some ⟨b1, 0, none⟩)), (27, ds.v), (28, intV ds.len), (29, intV i)]) (fun _ => H) (fun _ => [.blk b1 73 (offCells ds)]) (fun i => i ≤ ds.len) (fun i => ds.len - i) 0 (Nat.zero_le _) (by (repeat (first | exact True.intro | refine ⟨rfl, ?_⟩ | refine Sub.int rfl (by omega) ?_))) rfl (by (repeat (first | exact List.Sublist.refl _ | exact List.nil_sublist _ | apply List.Sublist.cons_cons | apply List.Sublist.cons))) ?_
  intro i hi
  by_cases hlt : i < ds.len
  · have hil : i < ds.els.length := by omega
    have hrow := hg.row (k := i) hlt
    have hdg := hg.els _ (List.getElem_mem hil)
    obtain ⟨hf, hap⟩ := hform i hil
    have hch := fun h0 : 0 < i => hchain (i - 1) (by omega)
    have hap0 := fun h0 : 0 < i => (hform (i - 1) (by omega)).2
    cases i with
    | zero =>
      obtain ⟨x, hx⟩ : ∃ x, ds.els[0]'hil = x := ⟨_, rfl⟩
      rw [hx] at hdg hf
      try rw [hx] at hrow
      repeat (any_goals (first | refine T.seq ?_ | refine T.region ?_ | (apply T.regionD wide; rfl) | refine TL.nil ?_ | refine N.next ?_ | refine N.inBlock ?_ | refine N.exit_same ?_ | refine N.exit_then ?_ | refine T.ret ?_ | refine T.skip ?_ | refine T.exit ?_ | refine T.block ?_ | (apply T.cond_false; rfl) | (apply T.test; rfl; (exact isx); intro _; rotate_left; intro _; rotate_right) | (apply GT.skip; rfl; rfl; rfl; decide +kernel) | (apply TL.val; rfl; rfl; (apply V.elem (j := 0); (iterate 6 rfl); omega; exact hg.at_ (by omega))) | (apply TL.val; rfl; rfl; (apply V.load_H_row; rfl; rfl; rfl; exact hrow; rfl)) | (apply TL.x; rfl; rfl; (apply X.alloc (d := 4); rfl; rfl; rfl); intro b4 _) | (apply TL.x; rfl; rfl; (apply X.storeTo 0 (enc x); (iterate 10 rfl)); intro _ _) | (apply TL.callE (f := 110) [.agg (enc x).toArray] Tryz.call110; (iterate 4 rfl); (exact fun _ hs => c_tinForm x hf hs.sat hR hdg)) | (apply TL.val; rfl; rfl; (first | exact vpure | exact vread)) | (apply GT.pure; (iterate 4 rfl); (first | exact vpure); decide +kernel) | (apply GT.done; decide +kernel; apply N.ofQ)))
      all_goals (try contradiction)
      all_goals (try (exfalso; omega))
      refine N.round 1 (by omega) (by show ds.len - 1 < ds.len - 0; omega) (by (repeat (first | exact True.intro | refine ⟨rfl, ?_⟩ | refine Sub.int rfl (by omega) ?_))) rfl (by (repeat (first | exact List.Sublist.refl _ | exact List.nil_sublist _ | apply List.Sublist.cons_cons | apply List.Sublist.cons)))
    | succ i =>
      have hil0 : i < ds.els.length := by omega
      have hch := hch (Nat.succ_pos i)
      have hap0 := hap0 (Nat.succ_pos i)
      simp only [Nat.add_sub_cancel] at hch hap0
      have c0 : H.cell ds.b (ds.o + i * 5 + 0) = some (strV (ds.els[i]'hil0).apex) := hg.cell (k := i) (j := 0) (by omega) rfl
      have c2 : H.cell ds.b (ds.o + i * 5 + 2) = some (intV (ds.els[i]'hil0).to) := hg.cell (k := i) (j := 2) (by omega) rfl
      rw [hap0, ← hap] at c0
      rw [← hch] at c2
      obtain ⟨x, hx⟩ : ∃ x, ds.els[i + 1]'hil = x := ⟨_, rfl⟩
      rw [hx] at hdg hf c0 c2
      try rw [hx] at hrow
      repeat (any_goals (first | refine T.seq ?_ | refine T.region ?_ | (apply T.regionD wide; rfl) | refine TL.nil ?_ | refine N.next ?_ | refine N.inBlock ?_ | refine N.exit_same ?_ | refine N.exit_then ?_ | refine N.ret_then ?_ | refine N.ret_block ?_ | refine T.ret ?_ | refine T.skip ?_ | refine T.exit ?_ | refine T.block ?_ | (apply T.cond_true; rfl) | (apply T.cond_false; rfl) | (apply T.test; rfl; (exact isx); intro _; rotate_left; intro _; rotate_right) | (apply GT.skip; rfl; rfl; rfl; decide +kernel) | (apply TL.val; rfl; rfl; (apply V.elem (j := i + 1); (iterate 6 rfl); omega; exact hg.at_ (by omega))) | (apply GT.pure; (iterate 4 rfl); (apply V.elem (j := i); (iterate 5 rfl); omega; omega; exact hg.at_ (by omega)); decide +kernel) | (apply TL.val; rfl; rfl; (apply V.load_H_row; rfl; rfl; rfl; exact hrow; rfl)) | (apply TL.x; rfl; rfl; (apply X.alloc (d := 4); rfl; rfl; rfl); intro b4 _) | (apply TL.x; rfl; rfl; (apply X.storeTo 0 (enc x); (iterate 10 rfl)); intro _ _) | (apply TL.callE (f := 110) [.agg (enc x).toArray] Tryz.call110; (iterate 4 rfl); (exact fun _ hs => c_tinForm x hf hs.sat hR hdg)) | (apply GT.read; (iterate 4 rfl); (apply V.load_H; rfl; rfl; rfl; first | exact c0 | exact c2); decide +kernel) | (apply TL.val; rfl; rfl; (first | exact vpure | exact vread)) | (apply GT.pure; (iterate 4 rfl); (first | exact vpure); decide +kernel) | (apply GT.read; (iterate 4 rfl); (first | exact vpure | exact vread); decide +kernel) | (apply GT.done; decide +kernel; apply N.ofQ) | (apply GT.guard; (iterate 4 rfl); (exact isx); intro _; rotate_left; intro _; rotate_right)))
      all_goals (try contradiction)
      all_goals (try (exfalso; omega))
      all_goals first
        | exact N.round (i + 2) (by omega) (by show ds.len - (i + 2) < ds.len - (i + 1); omega) (by (repeat (first | exact True.intro | refine ⟨rfl, ?_⟩ | refine Sub.int rfl (by omega) ?_))) rfl (by (repeat (first | exact List.Sublist.refl _ | exact List.nil_sublist _ | apply List.Sublist.cons_cons | apply List.Sublist.cons)))
        | trace_state
  · repeat (any_goals (first | refine T.seq ?_ | refine T.region ?_ | refine TL.nil ?_ | refine N.next ?_ | refine N.exit_same ?_ | refine N.exit_then ?_ | refine T.ret ?_ | refine T.skip ?_ | refine T.exit ?_ | refine T.block ?_ | (apply T.test; rfl; (exact isx); intro _; rotate_left; intro _; rotate_right) | (apply TL.val; rfl; rfl; (first | exact vpure | exact vread)) | (apply TL.x; rfl; rfl; (first | exact xgrow | exact xput); intro _ _)))
    all_goals (try (exfalso; omega))
    exact N.ret_bool rfl (by (exact rvx)) rfl
theorem c_offeredFull (z : ZoneV) (hs : Sat H w) : Calls Tryz.prog 62 #[.agg (offFull z).toArray] w (Ret w (.tuple #[strV z.apex, .bool true])) := by
  refine T.enter (vs := [.agg (offFull z).toArray]) (H := H) Tryz.func62 rfl rfl rfl hs ?_
  repeat (any_goals (first | refine T.seq ?_ | refine T.region ?_ | refine TL.nil ?_ | refine N.next ?_ | refine N.ret_then ?_ | refine T.ret ?_ | (apply T.cond_true; rfl) | (apply TL.x; rfl; rfl; (apply X.box (d := 1) (cs := offFull z); rfl; rfl; rfl); intro b1 _) | (apply TL.val; rfl; rfl; (first | exact vpure | exact vread))))
  all_goals (try contradiction)
  all_goals exact N.ret_two rfl (by (exact rvx)) (by (exact rvx)) rfl
theorem c_offeredDeltas (ds : Slc DeltaV) (a : Bytes) (ha : ∀ d ∈ ds.els, d.apex = a) (hs : Sat H w) (hg : ds.Good H) : Calls Tryz.prog 62 #[.agg (offCells ds).toArray] w (fun e w' => ∃ (x : Bytes) (b : Bool), (b = true → x = a) ∧ e = .returned (.tuple #[strV x, .bool b]) ∧ Below w.heap.size w w') := by
  have hlen := hg.len
  have hlim := hg.lim
  refine T.enter (vs := [.agg (offCells ds).toArray]) (H := H) Tryz.func62 rfl rfl rfl hs ?_
  by_cases h0 : 0 < ds.len
  · have c0 : H.cell ds.b (ds.o + 0 * 5 + 0) = some (strV (ds.els[0]'(by omega)).apex) := hg.cell (k := 0) (j := 0) h0 rfl
    rw [ha _ (List.getElem_mem _)] at c0
    repeat (any_goals (first | refine T.seq ?_ | refine T.region ?_ | refine TL.nil ?_ | refine N.next ?_ | refine N.ret_then ?_ | refine T.ret ?_ | refine T.skip ?_ | (apply T.cond_false; rfl) | (apply T.test; rfl; (exact isx); intro _; rotate_left; intro _; rotate_right) | (apply TL.x; rfl; rfl; (apply X.box (d := 1) (cs := offCells ds); rfl; rfl; rfl); intro b1 _) | (apply TL.val; rfl; rfl; (apply V.elem (j := 0); (iterate 6 rfl); omega; exact hg.at_ (by omega))) | (apply TL.val; rfl; rfl; (apply V.load_H; rfl; rfl; rfl; exact c0)) | (apply TL.val; rfl; rfl; (first | exact vpure | exact vread))))
    all_goals (try contradiction)
    all_goals (try (exfalso; omega))
    exact N.ret2 rfl (by (exact rvx)) (by (exact rvx)) fun w1 hst => ⟨a, true, fun _ => rfl, rfl, hst.below⟩
  · repeat (any_goals (first | refine T.seq ?_ | refine T.region ?_ | refine TL.nil ?_ | refine N.next ?_ | refine N.ret_then ?_ | refine T.ret ?_ | refine T.skip ?_ | (apply T.cond_false; rfl) | (apply T.test; rfl; (exact isx); intro _; rotate_left; intro _; rotate_right) | (apply TL.x; rfl; rfl; (apply X.box (d := 1) (cs := offCells ds); rfl; rfl; rfl); intro b1 _) | (apply TL.val; rfl; rfl; (first | exact vpure | exact vread))))
    all_goals (try contradiction)
    all_goals (try (exfalso; omega))
    exact N.ret2 rfl (by (exact rvx)) (by (exact rvx)) fun w1 hst => ⟨[], false, (fun h => by cases h), rfl, hst.below⟩
theorem c_fitsNil (z : ZoneV) (hs : Sat H w) : Calls Tryz.prog 63 #[.agg (enc SecV.nil).toArray, .agg (enc z).toArray] w (Ret w (intV 0)) := by
  refine T.enter (vs := [.agg (enc SecV.nil).toArray, .agg (enc z).toArray]) (H := H) Tryz.func63 rfl rfl rfl hs ?_
  repeat (any_goals (first | refine T.seq ?_ | refine T.region ?_ | refine TL.nil ?_ | refine N.next ?_ | refine N.ret_then ?_ | refine T.ret ?_ | (apply T.cond_true; rfl) | (apply TL.x; rfl; rfl; (apply X.box (d := 2) (cs := [.bool false, strV [], .slice none 0 0, intV 0]); rfl; rfl; rfl); intro b2 _) | (apply TL.x; rfl; rfl; (apply X.box (d := 3) (cs := enc z); rfl; rfl; rfl); intro b3 _) | (apply TL.val; rfl; rfl; (first | exact vpure | exact vread))))
  all_goals (try contradiction)
  all_goals exact N.ret_int rfl (by (exact rvx)) rfl
set_option maxHeartbeats 4000000 in
theorem c_TakeFull (z : ZoneV) (t : Int) (hz : ZonedR z.c) (ht : 0 ≤ t ∧ t ≤ 10000000) (hs : Sat H w) (hR : Rules H) (hg : Enc.good H z) : Calls Tryz.prog 28 #[.agg (enc SecV.nil).toArray, .agg (offFull z).toArray, intV t] w (RetF w H (fun p : Hp × ZoneV => p.2.c = z.c ∧ Enc.good p.1 p.2) (fun p => .tuple #[.agg (enc (⟨true, p.2, t⟩ : SecV)).toArray, intV 0]) (fun p => p.1)) := by
  have hzl : z.sets.len ≤ 20000 := by have := hz.one.few; rw [setsC_len] at this; have := hg.2.len; omega
  refine T.enter (vs := [.agg (enc SecV.nil).toArray, .agg (offFull z).toArray, intV t]) (H := H) Tryz.func28 rfl rfl rfl hs ?_
  repeat (any_goals (first | refine T.seq ?_ | refine T.region ?_ | refine TL.nil ?_ | refine N.next ?_ | refine N.ret_then ?_ | refine T.ret ?_ | refine T.skip ?_ | (apply T.cond_true; rfl) | (apply T.cond_false; rfl) | (apply T.test; rfl; (exact isx); intro _; rotate_left; intro _; rotate_right) | (apply TL.skip; rfl; rfl; rfl) | (apply TL.x; rfl; rfl; (apply X.box (d := 3) (cs := [.bool false, strV [], .slice none 0 0, intV 0]); rfl; rfl; rfl); intro b3 _) | (apply TL.x; rfl; rfl; (apply X.box (d := 4) (cs := offFull z); rfl; rfl; rfl); intro b4 _) | (apply TL.x; rfl; rfl; (apply X.alloc (d := 6); rfl; rfl; rfl); intro b6 _) | (apply TL.callE (f := 25) [.agg (enc SecV.nil).toArray] Tryz.call25; (iterate 4 rfl); (exact fun _ hs => c_secNil hs.sat)) | (apply TL.callE (f := 61) [.agg (offFull z).toArray] Tryz.call61; (iterate 4 rfl); (exact fun _ hs => c_offerOKFull z hz hs.sat hR hg)) | (apply TL.callE (f := 62) [.agg (offFull z).toArray] Tryz.call62; (iterate 4 rfl); (exact fun _ hs => c_offeredFull z hs.sat)) | (apply TL.callE (f := 63) [.agg (enc SecV.nil).toArray, .agg (enc z).toArray] Tryz.call63; (iterate 4 rfl); (exact fun _ hs => c_fitsNil z hs.sat)) | (apply TL.x; rfl; rfl; (apply X.callFE (f := 59) [.agg (enc z).toArray] Tryz.call59; rfl; rfl; rfl; exact (fun _ hs => c_tcloneZone z hzl (fun s hs => zoned_small hz hg hs) hs.sat hg)); rintro ⟨H1, y⟩ ⟨⟨hy1, hy2⟩, hle1⟩; dsimp only at hy1 hy2 hle1 ⊢) | (apply TL.val; rfl; rfl; (apply V.build; (iterate 6 rfl))) | (apply TL.x; rfl; rfl; (apply X.storeTo 0 (enc (⟨true, y, t⟩ : SecV)); (iterate 10 rfl)); intro _ _) | (apply TL.val; rfl; rfl; (first | exact vpure | exact vread)) | (apply TL.x; rfl; rfl; (first | exact xgrow | exact xput); intro _ _) | (apply TL.guard; rfl; rfl; rfl; (exact isx); intro _; rotate_left; intro _; rotate_right)))
  all_goals (try contradiction)
  all_goals (try (exfalso; omega))
  all_goals first
    | exact N.ret2 rfl (by (exact rvx)) (by (exact rvx)) fun w1 hst => ⟨(H1, y), ⟨hy1, hy2⟩, rfl, ⟨hst.fresh.below, hst.fresh.sat, hst.fresh.le, hst.fresh.new⟩⟩
    | trace_state
set_option maxHeartbeats 8000000 in
theorem c_TakeMore (l : List ZoneV) (k : Nat) (s : SecV) (ds : Slc DeltaV) (t : Int) (hzs : ZonesOK l) (hc : ChainOK l k ds.els) (hkn : k + ds.len + 1 = l.length) (hh : s.has = true) (hz : s.zone.c = (l[k]'(by omega)).c) (hu : 0 ≤ s.seen) (hut : s.seen ≤ t) (ht : t ≤ 10000000) (hs : Sat H w) (hR : Rules H) (hg : Enc.good H s) (hgd : ds.Good H) : Calls Tryz.prog 28 #[.agg (enc s).toArray, .agg (offCells ds).toArray, intV t] w (RetF w H (fun p : Hp × ZoneV => p.2.c = (l[l.length - 1]'(by omega)).c ∧ Enc.good p.1 p.2) (fun p => .tuple #[.agg (enc (⟨true, p.2, t⟩ : SecV)).toArray, intV 0]) (fun p => p.1)) := by
  have hlen := hgd.len
  have hlim := hgd.lim
  have hfew := hzs.few
  have hkl : k < l.length := by omega
  have hzr : ZonedR s.zone.c := by rw [hz]; exact hzs.each _ (List.getElem_mem _)
  have hza : s.zone.apex = (l[k]'hkl).apex := congrArg ZoneC.apex hz
  have hzl : s.zone.sets.len ≤ 20000 := by have := hzr.one.few; rw [setsC_len] at this; have := hg.1.2.len; omega
  have hda : ∀ d ∈ ds.els, d.apex = s.zone.apex := fun d hd => by
    obtain ⟨i, hi, rfl⟩ := List.mem_iff_getElem.1 hd
    rw [hza, (hc.each i hi (by omega) (by omega)).apex]
    exact hzs.apex _ (List.getElem_mem _) _ (List.getElem_mem _)
  refine T.enter (vs := [.agg (enc s).toArray, .agg (offCells ds).toArray, intV t]) (H := H) Tryz.func28 rfl rfl rfl hs ?_
  repeat (any_goals (first | refine T.seq ?_ | refine T.region ?_ | refine TL.nil ?_ | refine N.next ?_ | refine T.skip ?_ | refine T.block ?_ | (apply T.cond_true; rfl) | (apply T.cond_false; rfl) | (apply T.test; rfl; (exact isx); intro _; rotate_left; intro _; rotate_right) | (apply TL.skip; rfl; rfl; rfl) | (apply TL.x; rfl; rfl; (apply X.box (d := 3) (cs := enc s); rfl; rfl; rfl); intro b3 _) | (apply TL.x; rfl; rfl; (apply X.box (d := 4) (cs := offCells ds); rfl; rfl; rfl); intro b4 _) | (apply TL.x; rfl; rfl; (apply X.alloc (d := 6); rfl; rfl; rfl); intro b6 _) | (apply TL.callE (f := 25) [.agg (enc s).toArray] Tryz.call25; (iterate 4 rfl); (exact fun _ hs => c_secHas s hh hzr ⟨hu, by omega⟩ hs.sat hR hg)) | (apply TL.callE (f := 61) [.agg (offCells ds).toArray] Tryz.call61; (iterate 4 rfl); (exact fun _ hs => c_offerOKDeltas l k ds hzs hc hs.sat hR hgd)) | (apply TL.x; rfl; rfl; (apply X.callG (f := 62) (G := Bytes × Bool) (φ := fun p => p.2 = true → p.1 = s.zone.apex) (v := fun p => .tuple #[strV p.1, .bool p.2]) [.agg (offCells ds).toArray] Tryz.call62; rfl; rfl; rfl; exact (fun _ hs => (c_offeredDeltas ds s.zone.apex hda hs.sat hgd).mono fun e w' ⟨x, b, h1, h2, h3⟩ => ⟨(x, b), h1, h2, h3⟩)); rintro ⟨ox, ob⟩ hob; dsimp only at hob ⊢) | (apply TL.x; rfl; rfl; (apply X.callFE (f := 59) [.agg (enc s.zone).toArray] Tryz.call59; rfl; rfl; rfl; exact (fun _ hs => c_tcloneZone s.zone hzl (fun x hx => zoned_small hzr hg.1 hx) hs.sat hg.1)); rintro ⟨H1, y⟩ ⟨⟨hy1, hy2⟩, hle1⟩; dsimp only at hy1 hy2 hle1 ⊢) | (apply TL.x; rfl; rfl; (apply X.alloc (d := 11); rfl; rfl; rfl); intro b11 _) | (apply TL.x; rfl; rfl; (apply X.storeTo 0 (enc y); (iterate 10 rfl)); intro _ _) | (apply TL.val; rfl; rfl; (first | exact vpure | exact vread)) | (apply TL.guard; rfl; rfl; rfl; (exact isx); intro _; rotate_left; intro _; rotate_right)))
  all_goals (try contradiction)
  all_goals (try (exfalso; omega))
  all_goals (try (have hq : s.has = false := (by assumption); rw [hh] at hq; cases hq))
  all_goals (try (exact absurd (hob (by assumption)) (by assumption)))
  all_goals
    refine T.loop (G := Nat × Hp × ZoneV) (fun g => [(2, intV t), (6, .pointer (some ⟨b6, 0, none⟩)), (11, .pointer (some ⟨b11, 0, none⟩)), (81, ds.v), (82, intV ds.len), (83, intV g.1)]) (fun g => g.2.1) (fun g => [.blk b11 32 (enc g.2.2), .blk b6 34 [.bool false, strV [], .slice none 0 0, intV 0]]) (fun g => g.1 ≤ ds.len ∧ H.le g.2.1 ∧ (∃ h : k + g.1 < l.length, g.2.2.c = l[k + g.1].c) ∧ Enc.good g.2.1 g.2.2) (fun g => ds.len - g.1) (0, H1, y) ⟨Nat.zero_le _, hle1, ⟨by show k + 0 < l.length; omega, by show y.c = l[k + 0].c; rw [hy1]; exact hz⟩, hy2⟩ (by (repeat (first | exact True.intro | refine ⟨rfl, ?_⟩ | refine Sub.int rfl (by omega) ?_))) rfl (by (repeat (first | exact List.Sublist.refl _ | exact List.nil_sublist _ | apply List.Sublist.cons_cons | apply List.Sublist.cons))) ?_
    rintro ⟨i, H2, z⟩ ⟨hi, hle, ⟨hki, hzc⟩, hgz⟩
    simp only at hi hle hki hzc hgz ⊢
    have hgd2 := hgd.mono hle
    have hR2 := Rules.mono hle hR
    by_cases hlt : i < ds.len
    · have hil : i < ds.els.length := by omega
      have hki1 : k + i + 1 < l.length := by omega
      have hrow := hgd2.row (k := i) hlt
      have hdg := hgd2.els _ (List.getElem_mem hil)
      have hdo := hc.each i hil hki hki1
      have hst := hzs.step (k + i) hki1
      have hza1 := hzs.each _ (List.getElem_mem hki)
      have hzb1 := hzs.each _ (List.getElem_mem hki1)
      have hap1 := hzs.apex _ (List.getElem_mem hki) _ (List.getElem_mem hki1)
      have hap2 : z.apex = (l[k + i]'hki).apex := congrArg ZoneC.apex hzc
      rw [← hzc] at hdo hst hza1
      rw [← hap2] at hap1
      obtain ⟨x, hx⟩ : ∃ x, ds.els[i]'hil = x := ⟨_, rfl⟩
      obtain ⟨b, hb⟩ : ∃ b, l[k + i + 1]'hki1 = b := ⟨_, rfl⟩
      rw [hx] at hdg hdo
      rw [hb] at hdo hst hzb1 hap1
      try rw [hx] at hrow
      repeat (any_goals (first | refine T.seq ?_ | refine T.region ?_ | refine TL.nil ?_ | refine N.next ?_ | refine N.inBlock ?_ | refine N.exit_same ?_ | refine N.exit_then ?_ | refine T.skip ?_ | refine T.exit ?_ | refine T.block ?_ | (apply T.cond_false; rfl) | (apply T.test; rfl; (exact isx); intro _; rotate_left; intro _; rotate_right) | (apply TL.val; rfl; rfl; (apply V.elem (j := i); (iterate 6 rfl); omega; exact hgd2.at_ (by omega))) | (apply TL.val; rfl; rfl; (apply V.load_H_row; rfl; rfl; rfl; exact hrow; rfl)) | (apply TL.x; rfl; rfl; (apply X.alloc (d := 13); rfl; rfl; rfl); intro b13 _) | (apply TL.x; rfl; rfl; (apply X.storeTo 0 (enc x); (iterate 10 rfl)); intro _ _) | (apply TL.x; rfl; rfl; (apply X.callFE (f := 64) [.agg (enc z).toArray, .agg (enc x).toArray] Tryz.call64; rfl; rfl; rfl; exact (fun _ hs => c_Apply z b.c x hza1 hzb1 hap1 hdo hst hs.sat hR2 hgz hdg)); rintro ⟨H3, z2⟩ ⟨⟨hz1, hz2⟩, hle3⟩; dsimp only at hz1 hz2 hle3 ⊢) | (apply TL.x; rfl; rfl; (apply X.alloc (d := 14); rfl; rfl; rfl); intro b14 _) | (apply TL.x; rfl; rfl; (apply X.storeTo 0 (enc z2); (iterate 10 rfl)); intro _ _) | (apply TL.x; rfl; rfl; (apply X.storeTo 2 (enc z2); (iterate 10 rfl)); intro _ _) | (apply TL.val; rfl; rfl; (first | exact vpure | exact vread))))
      all_goals (try contradiction)
      all_goals (try (exfalso; omega))
      refine N.round (i + 1, H3, z2) ⟨by show i + 1 ≤ _; omega, hle.trans hle3, ⟨by show k + (i + 1) < l.length; omega, ?_⟩, hz2⟩ (by show ds.len - (i + 1) < ds.len - i; omega) (by (repeat (first | exact True.intro | refine ⟨rfl, ?_⟩ | refine Sub.int rfl (by omega) ?_))) rfl (by (repeat (first | exact List.Sublist.refl _ | exact List.nil_sublist _ | apply List.Sublist.cons_cons | apply List.Sublist.cons)))
      show z2.c = (l[k + (i + 1)]'(by omega)).c
      rw [hz1, ← hb]
      rfl
    · repeat (any_goals (first | refine T.seq ?_ | refine T.region ?_ | refine TL.nil ?_ | refine N.next ?_ | refine N.exit_same ?_ | refine N.exit_then ?_ | refine T.ret ?_ | refine T.skip ?_ | refine T.exit ?_ | refine T.block ?_ | (apply T.test; rfl; (exact isx); intro _; rotate_left; intro _; rotate_right) | (apply TL.val; rfl; rfl; (apply V.build; (iterate 6 rfl))) | (apply TL.x; rfl; rfl; (apply X.storeTo 1 (enc (⟨true, z, t⟩ : SecV)); (iterate 10 rfl)); intro _ _) | (apply TL.val; rfl; rfl; (first | exact vpure | exact vread)) | (apply TL.x; rfl; rfl; (first | exact xgrow | exact xput); intro _ _)))
      all_goals (try contradiction)
      all_goals (try (exfalso; omega))
      refine N.ret2 rfl (by (exact rvx)) (by (exact rvx)) fun w1 hst => ⟨(H2, z), ⟨?_, hgz⟩, rfl, ⟨hst.fresh.below, hst.fresh.sat, hst.fresh.le, hst.fresh.new⟩⟩
      show z.c = _
      rw [hzc]
      congr 2
      omega
theorem c_PullNew (l : Slc ZoneV) (t : Int) (hz : ZonesOK l.els) (h0 : 0 < l.len) (ht : 0 ≤ t ∧ t ≤ 10000000) (hs : Sat H w) (hR : Rules H) (hg : l.Good H) : Calls Tryz.prog 8 #[.agg (enc SecV.nil).toArray, l.v, intV t] w (RetF w H (fun p : Hp × ZoneV => (∃ h : l.len - 1 < l.els.length, p.2.c = l.els[l.len - 1].c) ∧ Enc.good p.1 p.2) (fun p => .tuple #[.agg (enc (⟨true, p.2, t⟩ : SecV)).toArray, intV 0]) (fun p => p.1)) := by
  have hlen := hg.len
  refine T.enter (vs := [.agg (enc SecV.nil).toArray, l.v, intV t]) (H := H) Tryz.func8 rfl rfl rfl hs ?_
  repeat (any_goals (first | refine T.seq ?_ | refine T.region ?_ | refine TL.nil ?_ | refine N.next ?_ | refine T.ret ?_ | refine T.skip ?_ | (apply T.cond_false; rfl) | (apply TL.x; rfl; rfl; (apply X.box (d := 3) (cs := [.bool false, strV [], .slice none 0 0, intV 0]); rfl; rfl; rfl); intro b3 _) | (apply TL.x; rfl; rfl; (apply X.alloc (d := 6); rfl; rfl; rfl); intro b6 _) | (apply TL.callE (f := 25) [.agg (enc SecV.nil).toArray] Tryz.call25; (iterate 4 rfl); (exact fun _ hs => c_secNil hs.sat)) | (apply TL.x; rfl; rfl; (apply X.callFE (f := 27) [l.v, .bool false, intV 0] Tryz.call27; rfl; rfl; rfl; exact (fun _ hs => c_ServeNew l 0 hz h0 hs.sat hR hg)); rintro ⟨H1, y⟩ ⟨⟨⟨hy0, hy1⟩, hy2⟩, hle1⟩; dsimp only at hy0 hy1 hy2 hle1 ⊢; have hyz : ZonedR y.c := (by rw [hy1]; exact hz.each _ (List.getElem_mem _)); have hR1 := Rules.mono hle1 hR) | (apply TL.x; rfl; rfl; (apply X.alloc (d := 9); rfl; rfl; rfl); intro b9 _) | (apply TL.x; rfl; rfl; (apply X.storeTo 0 (offFull y); (iterate 10 rfl)); intro _ _) | (apply TL.x; rfl; rfl; (apply X.callFE (f := 28) [.agg (enc SecV.nil).toArray, .agg (offFull y).toArray, intV t] Tryz.call28; rfl; rfl; rfl; exact (fun _ hs => c_TakeFull y t hyz ht hs.sat hR1 hy2)); rintro ⟨H2, x⟩ ⟨⟨hx1, hx2⟩, hle2⟩; dsimp only at hx1 hx2 hle2 ⊢) | (apply TL.x; rfl; rfl; (apply X.storeTo 1 (enc (⟨true, x, t⟩ : SecV)); (iterate 10 rfl)); intro _ _) | (apply TL.val; rfl; rfl; (first | exact vpure | exact vread))))
  all_goals (try contradiction)
  all_goals (try (exfalso; omega))
  all_goals exact N.ret2 rfl (by (exact rvx)) (by (exact rvx)) fun w1 hst => ⟨(H2, x), ⟨⟨hy0, hx1.trans hy1⟩, hx2⟩, rfl, ⟨hst.fresh.below, hst.fresh.sat, hst.fresh.le, hst.fresh.new⟩⟩
theorem c_PullMore (l : Slc ZoneV) (k : Nat) (s : SecV) (t : Int) (hz : ZonesOK l.els) (hkl : k < l.els.length) (hh : s.has = true) (hsz : s.zone.c = l.els[k].c) (hu : 0 ≤ s.seen) (hut : s.seen ≤ t) (ht : t ≤ 10000000) (hs : Sat H w) (hR : Rules H) (hg : l.Good H) (hgs : Enc.good H s) : Calls Tryz.prog 8 #[.agg (enc s).toArray, l.v, intV t] w (RetF w H (fun p : Hp × ZoneV => (∃ h : l.len - 1 < l.els.length, p.2.c = l.els[l.len - 1].c) ∧ Enc.good p.1 p.2) (fun p => .tuple #[.agg (enc (⟨true, p.2, t⟩ : SecV)).toArray, intV 0]) (fun p => p.1)) := by
  have hlen := hg.len
  have hzr : ZonedR s.zone.c := by rw [hsz]; exact hz.each _ (List.getElem_mem _)
  obtain ⟨n, hn⟩ : ∃ n, serialC s.zone.c = n := ⟨_, rfl⟩
  refine T.enter (vs := [.agg (enc s).toArray, l.v, intV t]) (H := H) Tryz.func8 rfl rfl rfl hs ?_
  repeat (any_goals (first | refine T.seq ?_ | refine T.region ?_ | refine TL.nil ?_ | refine N.next ?_ | refine T.ret ?_ | refine T.skip ?_ | (apply T.cond_false; rfl) | (apply T.test; rfl; (exact isx); intro _; rotate_left; intro _; rotate_right) | (apply TL.x; rfl; rfl; (apply X.box (d := 3) (cs := enc s); rfl; rfl; rfl); intro b3 _) | (apply TL.x; rfl; rfl; (apply X.alloc (d := 6); rfl; rfl; rfl); intro b6 _) | (apply TL.callE (f := 25) [.agg (enc s).toArray] Tryz.call25; (iterate 4 rfl); (exact fun _ hs => c_secHas s hh hzr ⟨hu, by omega⟩ hs.sat hR hgs)) | (apply TL.callE (f := 26) [.agg (enc s.zone).toArray] Tryz.call26; (iterate 4 rfl); (exact fun _ hs => c_zoneSerial s.zone hzr hn hs.sat hR hgs.1)) | (apply TL.x; rfl; rfl; (apply X.callFE (f := 27) [l.v, .bool true, intV n] Tryz.call27; rfl; rfl; exact (congrArg (fun b => [l.v, Value.bool b, intV n]) hh); exact (fun _ hs => c_ServeMore l k hz hkl (by rw [← hsz]; exact hn) hs.sat hR hg)); rintro ⟨H1, ds⟩ ⟨⟨⟨hy0, hy1⟩, hy2⟩, hle1⟩; dsimp only at hy0 hy1 hy2 hle1 ⊢; have hR1 := Rules.mono hle1 hR; have hgs1 := Enc.mono hle1 hgs) | (apply TL.x; rfl; rfl; (apply X.alloc (d := 9); rfl; rfl; rfl); intro b9 _) | (apply TL.x; rfl; rfl; (apply X.storeTo 0 (offCells ds); (iterate 10 rfl)); intro _ _) | (apply TL.x; rfl; rfl; (apply X.callFE (f := 28) [.agg (enc s).toArray, .agg (offCells ds).toArray, intV t] Tryz.call28; rfl; rfl; rfl; exact (fun _ hs => c_TakeMore l.els k s ds t hz hy0 (by omega) hh hsz hu hut ht hs.sat hR1 hgs1 hy2)); rintro ⟨H2, x⟩ ⟨⟨hx1, hx2⟩, hle2⟩; dsimp only at hx1 hx2 hle2 ⊢) | (apply TL.x; rfl; rfl; (apply X.storeTo 1 (enc (⟨true, x, t⟩ : SecV)); (iterate 10 rfl)); intro _ _) | (apply TL.val; rfl; rfl; (first | exact vpure | exact vread))))
  all_goals (try contradiction)
  all_goals (try (exfalso; omega))
  all_goals (try (have hq : s.has = false := (by assumption); rw [hh] at hq; cases hq))
  all_goals first
    | exact N.ret2 rfl (by (exact rvx)) (by (exact rvx)) fun w1 hst => ⟨(H2, x), ⟨⟨by omega, hx1.trans (by congr 2; omega)⟩, hx2⟩, rfl, ⟨hst.fresh.below, hst.fresh.sat, hst.fresh.le, hst.fresh.new⟩⟩
    | trace_state
end
end Go.Proofs.YthabgdbhgcgemaaGreatDoor
