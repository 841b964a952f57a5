/- Walks: the laws IterateMatchesReference and IterateKnown. -/
import Derived.Test.YtfbhcemlnojejaaDoorQIO
namespace Go.Proofs.YtfbhcemlnojejaaDoor
set_option linter.unusedVariables false
set_option linter.unusedSimpArgs false
open Go Go.RowKit
open Enc (enc)
set_option maxRecDepth 20000

def usableI (K : List SignedC) (hints : List Int) (q : Question) : Bool := fewT K && knownOK K && decide (hints.length ≤ 8) && hintsC hints && questionOK q
theorem usable_iff {K : List SignedC} {hints : List Int} {q : Question} : usableI K hints q = true ↔ (fewT K = true ∧ knownOK K = true ∧ hintsC hints = true ∧ questionOK q = true) := by
  unfold usableI
  simp only [Bool.and_eq_true, decide_eq_true_eq]
  constructor
  · rintro ⟨⟨⟨⟨h1, h2⟩, h3⟩, h4⟩, h5⟩; exact ⟨h1, h2, h4, h5⟩
  · rintro ⟨h1, h2, h4, h5⟩
    refine ⟨⟨⟨⟨h1, h2⟩, ?_⟩, h4⟩, h5⟩
    unfold hintsC at h4
    simp only [Bool.and_eq_true, decide_eq_true_eq] at h4
    exact h4.1.2
theorem c_usable28 (known : Slc Signed) (hints : Slc Int) (q : Question) {b : Bool} (h : usableI (known.els.map Signed.c) hints.els q = b) {H : Hp} {w : World} (hs : Sat H w) (hk : known.Good H) (hh : hints.Good H) (hq : Enc.good H q) : Calls Tryd.prog 40 #[known.v, hints.v, .agg (enc q).toArray] w (Ret w (.bool b)) := by
  subst h
  have hl := hh.len
  refine T.enter (vs := [known.v, hints.v, .agg (enc q).toArray]) (H := H) Tryd.func40 rfl rfl rfl hs ?_
  unfold usableI
  obtain ⟨b1, h1⟩ : ∃ x, fewT (known.els.map Signed.c) = x := ⟨_, rfl⟩
  obtain ⟨b2, h2⟩ : ∃ x, knownOK (known.els.map Signed.c) = x := ⟨_, rfl⟩
  obtain ⟨b3, h3⟩ : ∃ x, hintsC hints.els = x := ⟨_, rfl⟩
  obtain ⟨b4, h4⟩ : ∃ x, questionOK q = x := ⟨_, rfl⟩
  repeat (any_goals (first | refine T.seq ?_ | refine T.region ?_ | refine TL.nil ?_ | refine N.next ?_ | refine N.inBlock ?_ | refine N.exit_same ?_ | refine N.exit_then ?_ | refine N.ret_then ?_ | refine N.ret_block ?_ | (apply N.exit_other; rfl) | refine T.ret ?_ | refine T.skip ?_ | refine T.exit ?_ | refine T.block ?_ | (apply T.cond_true; rfl) | (apply T.cond_false; rfl) | (apply T.test; rfl; (with_reducible (first | exact Is.ndec | exact Is.dec | exact Is.not | ((fail_if_success exact Is.litT); (fail_if_success exact Is.litF); exact Is.base))); intro _; rotate_left; intro _; rotate_right) | (apply TL.skip; rfl; rfl; rfl) | (apply TL.skip_none; rfl; rfl) | (apply TL.callE (f := 15) [known.v] Tryd.call15; rfl; rfl; rfl; rfl; (exact fun _ hs => h1 ▸ c_Few10 known _ _ hs.sat hk)) | (apply TL.callE (f := 46) [known.v] Tryd.call46; rfl; rfl; rfl; rfl; (exact fun _ hs => h2 ▸ c_Right28 known _ _ hs.sat hk)) | (apply TL.callE (f := 85) [hints.v] Tryd.call85; rfl; rfl; rfl; rfl; (exact fun _ hs => h3 ▸ c_Hints28 hints _ _ hs.sat hh)) | (apply TL.callE (f := 42) [.agg (enc q).toArray] Tryd.call42; rfl; rfl; rfl; rfl; (exact fun _ hs => c_Question06V28 q h4 hs.sat hq)) | (apply TL.val; rfl; rfl; (first | exact vpure | exact vread)) | (apply TL.x; rfl; rfl; (first | exact xgrow | exact xput); intro _ _) | (apply TL.guard; rfl; rfl; rfl; (with_reducible (first | exact Is.ndec | exact Is.dec | exact Is.not | ((fail_if_success exact Is.litT); (fail_if_success exact Is.litF); exact Is.base))); intro _; rotate_left; intro _; rotate_right)))
  all_goals (try (first | (apply N.ret_bool; rfl; (exact rvx)) | (apply N.ret_int; rfl; (exact rvx)) | (apply N.ret_val; rfl; (exact rvx))))
  all_goals first
    | (rw [h1, h2, h3, h4, decide_eq_true (show hints.els.length ≤ 8 by omega)]; simp [*]; done)
    | (rw [h1, h2, h3, h4, decide_eq_false (show ¬ hints.els.length ≤ 8 by omega)]; simp [*]; done)
    | (rw [h1, h2, h3, h4]; simp [*]; done)
theorem few_sigs {K : List Signed} (h : fewT (K.map Signed.c) = true) : ∀ x ∈ K, x.sigs.els.length ≤ 1000 := fun x hx => by
  unfold fewT at h
  simp only [Bool.and_eq_true, List.all_eq_true, decide_eq_true_eq] at h
  exact Nat.le_trans (h.2 x.c (List.mem_map_of_mem hx)).1.2 (by decide)
theorem few_len {K : List SignedC} (h : fewT K = true) : K.length ≤ 60 := by
  unfold fewT at h
  simp only [Bool.and_eq_true, decide_eq_true_eq] at h
  exact h.1
theorem hints_len {l : Slc Int} {H : Hp} (hg : l.Good H) (h : hintsC l.els = true) : l.len ≤ 8 := by
  unfold hintsC at h
  simp only [Bool.and_eq_true, decide_eq_true_eq] at h
  have := hg.len
  omega
theorem c_Ask28V {known : Slc Signed} {hints : Slc Int} {q : Question} {r : NextC} {e : Int} (hr : askC (known.els.map Signed.c) hints.els q = (r, e)) {H : Hp} {w : World} (hs : Sat H w) (hk : known.Good H) (hh : hints.Good H) (hq : Enc.good H q) (hl : hints.len ≤ 1000) : Calls Tryd.prog 36 #[known.v, hints.v, .agg (enc q).toArray] w (RetF w H (fun p : Hp × Nxt => p.2.c = r ∧ Enc.good p.1 p.2) (fun p => .tuple #[.agg (enc p.2).toArray, intV e]) (fun p => p.1)) := by
  have h := c_Ask28 known hints q H w hs hk hh hq hl
  rw [hr] at h
  exact h
theorem c_iZoneV {known : Slc Signed} {s z : Bytes} {e : Int} (hr : zoneI (known.els.map Signed.c) s = (z, e)) {H : Hp} {w : World} (hs : Sat H w) (hR : Rules H) (hk : known.Good H) (hl : LenOk s) : Calls Tryd.prog 37 #[known.v, strV s] w (Ret w (.tuple #[strV z, intV e])) := by
  have h := c_iZone known s H w hs hR hk hl
  rw [hr] at h
  exact h
theorem c_Zone28V {known : Slc Signed} {s z : Bytes} {e : Int} (hr : zoneI (known.els.map Signed.c) s = (z, e)) {H : Hp} {w : World} (hs : Sat H w) (hk : known.Good H) (hl : LenOk s) : Calls Tryd.prog 38 #[known.v, strV s] w (Ret w (.tuple #[strV z, intV e])) := by
  have h := c_Zone28 known s H w hs hk hl
  rw [hr] at h
  exact h
set_option maxHeartbeats 8000000 in
theorem c_IMatch (known : Slc Signed) (hints : Slc Int) (q : Question) (s : Bytes) (H : Hp) (w : World) (hs : Sat H w) (hR : Rules H) (hk : known.Good H) (hh : hints.Good H) (hq : Enc.good H q) (hsl : LenOk s) : Calls Tryd.prog 9 #[known.v, hints.v, .agg (enc q).toArray, strV s] w (Ret w (.bool true)) := by
  have hhl := hh.len
  refine T.enter (vs := [known.v, hints.v, .agg (enc q).toArray, strV s]) (H := H) Tryd.func9 rfl rfl rfl hs ?_
  obtain ⟨b1, hb1⟩ : ∃ x, fewT (known.els.map Signed.c) = x := ⟨_, rfl⟩
  by_cases hgo : b1 = true ∧ hints.len ≤ 20
  rotate_left
  · repeat (any_goals (first | (apply T.seqU 5; rfl) | refine T.region ?_ | refine TL.nil ?_ | refine N.next ?_ | refine N.inBlock ?_ | refine N.exit_same ?_ | refine N.exit_then ?_ | refine N.ret_then ?_ | refine N.ret_block ?_ | (apply N.exit_other; rfl) | refine T.ret ?_ | refine T.skip ?_ | refine T.exit ?_ | refine T.block ?_ | (apply T.cond_true; rfl) | (apply T.cond_false; rfl) | (apply T.test; rfl; (with_reducible (first | exact Is.ndec | exact Is.dec | exact Is.not | ((fail_if_success exact Is.litT); (fail_if_success exact Is.litF); exact Is.base))); intro _; rotate_left; intro _; rotate_right) | (apply TL.skip; rfl; rfl; rfl) | (apply TL.skip_none; rfl; rfl) | (apply TL.call0 (f := 34) Tryd.call34; rfl; rfl; rfl; (exact fun _ hs => c_head28 _ _ hs.sat hR)) | (apply TL.callE (f := 15) [known.v] Tryd.call15; rfl; rfl; rfl; rfl; (exact fun _ hs => hb1 ▸ c_Few10 known _ _ hs.sat hk)) | (apply TL.val; rfl; rfl; (first | exact vpure | exact vread)) | (apply TL.x; rfl; rfl; (first | exact xgrow | exact xput); intro _ _) | (apply TL.guard; rfl; rfl; rfl; (with_reducible (first | exact Is.ndec | exact Is.dec | exact Is.not | ((fail_if_success exact Is.litT); (fail_if_success exact Is.litF); exact Is.base))); intro _; rotate_left; intro _; rotate_right)))
    all_goals (try contradiction)
    all_goals first
      | exact N.ret_bool rfl (by (exact rvx)) rfl
      | (exfalso; exact hgo ⟨by assumption, by omega⟩)
  · obtain ⟨rfl, h20⟩ := hgo
    obtain ⟨⟨r, e⟩, hr⟩ : ∃ x, askC (known.els.map Signed.c) hints.els q = x := ⟨_, rfl⟩
    obtain ⟨⟨z, ez⟩, hz⟩ : ∃ x, zoneI (known.els.map Signed.c) s = x := ⟨_, rfl⟩
    repeat (any_goals (first | refine T.seq ?_ | refine T.region ?_ | refine TL.nil ?_ | refine N.next ?_ | refine N.inBlock ?_ | refine N.exit_same ?_ | refine N.exit_then ?_ | refine N.ret_then ?_ | refine N.ret_block ?_ | (apply N.exit_other; rfl) | refine T.ret ?_ | refine T.skip ?_ | refine T.exit ?_ | refine T.block ?_ | (apply T.cond_true; rfl) | (apply T.cond_false; rfl) | (apply T.test; rfl; (with_reducible (first | exact Is.ndec | exact Is.dec | exact Is.not | ((fail_if_success exact Is.litT); (fail_if_success exact Is.litF); exact Is.base))); intro _; rotate_left; intro _; rotate_right) | (apply TL.skip; rfl; rfl; rfl) | (apply TL.skip_none; rfl; rfl) | (apply TL.call0 (f := 34) Tryd.call34; rfl; rfl; rfl; (exact fun _ hs => c_head28 _ _ hs.sat hR)) | (apply TL.callE (f := 15) [known.v] Tryd.call15; rfl; rfl; rfl; rfl; (exact fun _ hs => hb1 ▸ c_Few10 known _ _ hs.sat hk)) | (apply TL.x; rfl; rfl; (apply X.callFE (f := 35) [known.v, hints.v, .agg (enc q).toArray] Tryd.call35; rfl; rfl; rfl; exact (fun _ hs => c_iAskV hr hs.sat hR hk hh hq (few_sigs hb1))); intro a ha; have ga := ha.1.2; have hR := Rules.mono ha.2 hR; have hk := hk.mono ha.2; have hh := hh.mono ha.2; have hq := Enc.mono ha.2 hq) | (apply TL.x; rfl; rfl; (apply X.storeTo 0 (enc a.2); rfl; rfl; rfl; rfl; rfl; rfl; rfl; rfl; rfl; rfl); intro _ _) | (apply TL.x; rfl; rfl; (apply X.callFE (f := 36) [known.v, hints.v, .agg (enc q).toArray] Tryd.call36; rfl; rfl; rfl; exact (fun _ hs => c_Ask28V hr hs.sat hk hh hq (by omega))); intro b hb; have gb := hb.1.2; have ga := Enc.mono hb.2 ga; have hR := Rules.mono hb.2 hR; have hk := hk.mono hb.2) | (apply TL.x; rfl; rfl; (apply X.storeTo 0 (enc b.2); rfl; rfl; rfl; rfl; rfl; rfl; rfl; rfl; rfl; rfl); intro _ _) | (apply TL.callE (f := 37) [known.v, strV s] Tryd.call37; rfl; rfl; rfl; rfl; (exact fun _ hs => c_iZoneV hz hs.sat hR hk hsl)) | (apply TL.callE (f := 38) [known.v, strV s] Tryd.call38; rfl; rfl; rfl; rfl; (exact fun _ hs => c_Zone28V hz hs.sat hk hsl)) | (apply TL.callE (f := 39) [.agg (enc a.2).toArray, .agg (enc b.2).toArray] Tryd.call39; rfl; rfl; rfl; rfl; (exact fun _ hs => c_SameNV (v := true) (decide_eq_true (ha.1.1.trans hb.1.1.symm)) hs.sat ga gb)) | (apply TL.val; rfl; rfl; (first | exact vpure | exact vread)) | (apply TL.x; rfl; rfl; (first | exact xgrow | exact xput); intro _ _) | (apply TL.guard; rfl; rfl; rfl; (with_reducible (first | exact Is.ndec | exact Is.dec | exact Is.not | ((fail_if_success exact Is.litT); (fail_if_success exact Is.litF); exact Is.base))); intro _; rotate_left; intro _; rotate_right)))
    all_goals (try contradiction)
    all_goals (refine N.ret_bool rfl (by (exact rvx)) ?_)
    all_goals (try rfl)
    all_goals simp
theorem ask_err {K : List SignedC} {hints : List Int} {q : Question} (h1 : knownOK K = true) (h2 : hintsC hints = true) (h3 : questionOK q = true) : (askC K hints q).2 = 0 := by
  unfold askC
  rw [h1, h2, h3]
  simp only [Bool.and_self, Bool.not_true, Bool.false_eq_true, if_false]
  split
  · rfl
  · split <;> rfl
theorem ask_done {K : List SignedC} {hints : List Int} {q : Question} {s : SignedC} (h1 : knownOK K = true) (h2 : hintsC hints = true) (h3 : questionOK q = true) (hf : findC K q.name q.typ = some s) : askC K hints q = (⟨2, [], [], qNil, [s]⟩, 0) := by
  unfold askC
  rw [h1, h2, h3]
  simp only [Bool.and_self, Bool.not_true, Bool.false_eq_true, if_false, follow_found hf, hf]
  rfl
theorem ask_nil {hints : List Int} {q : Question} (h2 : hintsC hints = true) (h3 : questionOK q = true) : askC [] hints q = (⟨1, [46], hints, q, []⟩, 0) := by
  have hqn : nameOK q.name = true := by
    unfold questionOK at h3
    simp only [Bool.and_eq_true] at h3
    exact h3.1
  have hf : followI [] 9 [] q.name q.typ = some ([], q.name) := by
    unfold followI
    split
    · rfl
    · rfl
  have hz : (zonesC [] q []).head? = some [46] := by
    have e : zonesC [] q [] = zonesC [] ⟨q.name, 2⟩ [] := by
      unfold zonesC
      refine List.filter_congr fun z _ => ?_
      unfold asked
      rfl
    rw [e]
    have := zone_first (K := []) (q := ⟨q.name, 2⟩) rfl (parts_labs hqn).1
    refine Eq.trans this ?_
    rw [List.find?_eq_none.2 (fun _ _ => by show ¬ has [] _ 2 = true; simp [has, findC])]
    rfl
  have hh : hints ≠ [] := by
    rintro rfl
    revert h2; decide
  have ha : addrsI [] hints [46] = hints := by
    unfold addrsI
    rw [if_pos ⟨rfl, rfl⟩]
  unfold askC
  rw [h2, h3]
  simp only [show knownOK [] = true from by decide, Bool.and_self, Bool.not_true, Bool.false_eq_true, if_false, hf, show findC [] q.name q.typ = none from rfl]
  have : nextI [] hints 9 ⟨q.name, q.typ⟩ [] = ⟨1, [46], hints, q, []⟩ := by
    unfold nextI
    cases hzz : zonesC [] ⟨q.name, q.typ⟩ [] with
    | nil => rw [show zonesC [] q [] = [] from hzz] at hz; cases hz
    | cons z r =>
      rw [show zonesC [] q [] = z :: r from hzz] at hz
      obtain rfl : z = [46] := Option.some.inj hz
      unfold goI
      rw [ha, if_pos hh]
  rw [this]
section
variable {P : Program} {n : FK} {S : World → Prop} {env : List (Nat × Value)}
/-- 's[lo:lo+1]'. -/
theorem V.sliceOne [Tys P] (lo : Nat) {t e : TypeId} {x y z : Operand} {A : Option Addr} {m c : Nat} {i j : Int} {k ke : TyK} {q r : IntKind} (hk : tyk P t = some k) (hd : k.desc = .slice e) (hke : tyk P e = some ke) (hx : ev env x = some (.slice A m c)) (hy : ev env y = some (.int q i)) (hz : ev env z = some (.int r j)) (h1 : i = lo) (h2 : j = (lo : Int) + 1) (h5 : lo + 1 ≤ c) :
    V P n S env (.slice t x (some y) (some z) none) (.slice (if c = lo then A else A.map (·.add (lo * ke.size))) 1 (c - lo)) := by
  have := V.slice2 (P := P) (n := n) (S := S) lo (lo + 1) hk hd hke hx hy hz h1 (by rw [h2]; push_cast; rfl) (by omega) h5
  rw [Nat.add_sub_cancel_left] at this
  exact this
end
set_option maxHeartbeats 8000000 in
theorem c_IKnown (known : Slc Signed) (hints : Slc Int) (q : Question) (H : Hp) (w : World) (hs : Sat H w) (hR : Rules H) (hk : known.Good H) (hh : hints.Good H) (hq : Enc.good H q) : Calls Tryd.prog 10 #[known.v, hints.v, .agg (enc q).toArray] w (Ret w (.bool true)) := by
  refine T.enter (vs := [known.v, hints.v, .agg (enc q).toArray]) (H := H) Tryd.func10 rfl rfl rfl hs ?_
  cases hu : usableI (known.els.map Signed.c) hints.els q with
  | false =>
    repeat (any_goals (first | (apply T.seqU 5; rfl) | refine T.region ?_ | (apply T.regionD wide; rfl) | refine TL.nil ?_ | refine N.next ?_ | refine N.inBlock ?_ | refine N.exit_same ?_ | refine N.exit_then ?_ | refine N.ret_then ?_ | refine N.ret_block ?_ | (apply N.exit_other; rfl) | refine T.ret ?_ | refine T.skip ?_ | refine T.exit ?_ | refine T.block ?_ | (apply T.cond_true; rfl) | (apply T.cond_false; rfl) | (apply T.test; rfl; (with_reducible (first | exact Is.ndec | exact Is.dec | exact Is.not | ((fail_if_success exact Is.litT); (fail_if_success exact Is.litF); exact Is.base))); intro _; rotate_left; intro _; rotate_right) | (apply TL.skip; rfl; rfl; rfl) | (apply TL.skip_none; rfl; rfl) | (apply GT.skip; rfl; rfl; rfl; decide +kernel) | (apply GS.grow; rfl; rfl; (apply X.callR0 (f := 34) Tryd.call34; rfl; rfl; (exact fun _ hs => c_head28 _ _ hs.sat hR)); intro _ _) | (apply TL.call0 (f := 34) Tryd.call34; rfl; rfl; rfl; (exact fun _ hs => c_head28 _ _ hs.sat hR)) | (apply GT.call0 (f := 34) Tryd.call34; rfl; rfl; rfl; rfl; rfl; (exact fun _ hs => c_head28 _ _ hs.sat hR); decide +kernel) | (apply TL.callE (f := 40) [known.v, hints.v, .agg (enc q).toArray] Tryd.call40; rfl; rfl; rfl; rfl; (exact fun _ hs => c_usable28 known hints q hu hs.sat hk hh hq)) | (apply GT.callE (f := 40) [known.v, hints.v, .agg (enc q).toArray] Tryd.call40; rfl; rfl; rfl; rfl; rfl; rfl; (exact fun _ hs => c_usable28 known hints q hu hs.sat hk hh hq); decide +kernel) | (apply TL.val; rfl; rfl; (first | exact vpure | exact vread)) | (apply GT.pure; rfl; rfl; rfl; rfl; (first | exact vpure); decide +kernel) | (apply GT.read; rfl; rfl; rfl; rfl; (first | exact vpure | exact vread); decide +kernel) | (apply GT.done; decide +kernel; apply N.ofQ) | (apply GT.adv; rfl) | (apply TL.x; rfl; rfl; (first | exact xgrow | exact xput); intro _ _) | (apply GS.grow; rfl; rfl; (first | exact xgrow); intro _ _) | (apply GS.eff; rfl; decide +kernel; rfl; (first | exact xput); intro _ _) | (apply TL.guard; rfl; rfl; rfl; (with_reducible (first | exact Is.ndec | exact Is.dec | exact Is.not | ((fail_if_success exact Is.litT); (fail_if_success exact Is.litF); exact Is.base))); intro _; rotate_left; intro _; rotate_right) | (apply GT.guard; rfl; rfl; rfl; rfl; (with_reducible (first | exact Is.ndec | exact Is.dec | exact Is.not | ((fail_if_success exact Is.litT); (fail_if_success exact Is.litF); exact Is.base))); intro _; rotate_left; intro _; rotate_right) | (apply GT.fork1; decide +kernel) | (apply GT.fork2 1; decide +kernel) | (apply GT.fork2 2; decide +kernel) | (apply GT.fork2 3; decide +kernel) | (apply GT.fork2 4; decide +kernel) | (apply GT.fork2 5; decide +kernel) | (apply GT.fork2 6; decide +kernel) | (apply GT.fork2 7; decide +kernel) | (apply GT.fork2 8; decide +kernel) | (apply GT.fork2 9; decide +kernel) | (apply GT.fork2 10; decide +kernel) | (apply GT.fork2 11; decide +kernel) | (apply GT.fork2 12; decide +kernel) | (apply GT.fork2 13; decide +kernel) | (apply GT.fork2 14; decide +kernel) | (apply GT.fork2 15; decide +kernel) | (apply GT.fork2 16; decide +kernel) | (apply GT.fork2 17; decide +kernel) | (apply GT.fork2 18; decide +kernel) | (apply GT.fork2 19; decide +kernel) | (apply GT.fork2 20; decide +kernel) | (apply GT.fork2 21; decide +kernel) | (apply GT.fork2 22; decide +kernel) | (apply GT.fork2 23; decide +kernel)))
    all_goals (try contradiction)
    exact N.ret_bool rfl (by (exact rvx)) rfl
  | true =>
    obtain ⟨u1, u2, u3, u4⟩ := usable_iff.1 hu
    have hh8 := hints_len hh u3
    have hl60 := few_len u1
    rw [List.length_map] at hl60
    have hkl := hk.len
    have hkcap := hk.cap
    obtain ⟨⟨r, e⟩, hr⟩ : ∃ x, askC (known.els.map Signed.c) hints.els q = x := ⟨_, rfl⟩
    have he : e = 0 := by have := ask_err u2 u3 u4; rw [hr] at this; exact this
    subst he
    have hn := ask_nil u3 u4
    cases hf : findS known.els q.name q.typ with
    | none =>
      have hki := knownS_none hf
      repeat (any_goals (first | refine T.seq ?_ | refine T.region ?_ | (apply T.regionD wide; rfl) | refine TL.nil ?_ | refine N.next ?_ | refine N.inBlock ?_ | refine N.exit_same ?_ | refine N.exit_then ?_ | refine N.ret_then ?_ | refine N.ret_block ?_ | (apply N.exit_other; rfl) | refine T.ret ?_ | refine T.skip ?_ | refine T.exit ?_ | refine T.block ?_ | (apply T.cond_true; rfl) | (apply T.cond_false; rfl) | (apply T.test; rfl; (with_reducible (first | exact Is.ndec | exact Is.dec | exact Is.not | ((fail_if_success exact Is.litT); (fail_if_success exact Is.litF); exact Is.base))); intro _; rotate_left; intro _; rotate_right) | (apply TL.skip; rfl; rfl; rfl) | (apply TL.skip_none; rfl; rfl) | (apply GT.skip; rfl; rfl; rfl; decide +kernel) | (apply GS.grow; rfl; rfl; (apply X.callR0 (f := 34) Tryd.call34; rfl; rfl; (exact fun _ hs => c_head28 _ _ hs.sat hR)); intro _ _) | (apply TL.call0 (f := 34) Tryd.call34; rfl; rfl; rfl; (exact fun _ hs => c_head28 _ _ hs.sat hR)) | (apply GT.call0 (f := 34) Tryd.call34; rfl; rfl; rfl; rfl; rfl; (exact fun _ hs => c_head28 _ _ hs.sat hR); decide +kernel) | (apply TL.callE (f := 40) [known.v, hints.v, .agg (enc q).toArray] Tryd.call40; rfl; rfl; rfl; rfl; (exact fun _ hs => c_usable28 known hints q hu hs.sat hk hh hq)) | (apply GT.callE (f := 40) [known.v, hints.v, .agg (enc q).toArray] Tryd.call40; rfl; rfl; rfl; rfl; rfl; rfl; (exact fun _ hs => c_usable28 known hints q hu hs.sat hk hh hq); decide +kernel) | (apply TL.x; rfl; rfl; (apply X.callFE (f := 35) [known.v, hints.v, .agg (enc q).toArray] Tryd.call35; rfl; rfl; rfl; exact (fun _ hs => c_iAskV hr hs.sat hR hk hh hq (few_sigs u1))); intro a ha; have ga := ha.1.2; have hR := Rules.mono ha.2 hR; have hk := hk.mono ha.2; have hh := hh.mono ha.2; have hq := Enc.mono ha.2 hq) | (apply TL.x; rfl; rfl; (apply X.storeTo 0 (enc a.2); rfl; rfl; rfl; rfl; rfl; rfl; rfl; rfl; rfl; rfl); intro _ _) | (apply GS.eff; rfl; decide +kernel; rfl; (apply X.storeTo 0 (enc a.2); rfl; rfl; rfl; rfl; rfl; rfl; rfl; rfl; rfl; rfl); intro _ _) | (apply TL.x; rfl; rfl; (apply X.callFE (f := 35) [.slice none 0 0, hints.v, .agg (enc q).toArray] Tryd.call35; rfl; rfl; rfl; exact (fun _ hs => c_iAskV (known := Slc.nil _) hn hs.sat hR Slc.nil_good hh hq (fun x hx => by cases hx))); intro b hb; have gb := hb.1.2; have hk := hk.mono hb.2; have hh := hh.mono hb.2; have hq := Enc.mono hb.2 hq) | (apply TL.x; rfl; rfl; (apply X.storeTo 0 (enc b.2); rfl; rfl; rfl; rfl; rfl; rfl; rfl; rfl; rfl; rfl); intro _ _) | (apply GS.eff; rfl; decide +kernel; rfl; (apply X.storeTo 0 (enc b.2); rfl; rfl; rfl; rfl; rfl; rfl; rfl; rfl; rfl; rfl); intro _ _) | (apply TL.val; rfl; rfl; (apply V.build; rfl; rfl; rfl; rfl; rfl; rfl)) | (apply GT.pure; rfl; rfl; rfl; rfl; (apply V.build; rfl; rfl; rfl; rfl; rfl; rfl); decide +kernel) | (apply GT.read; rfl; rfl; rfl; rfl; (apply V.build; rfl; rfl; rfl; rfl; rfl; rfl); decide +kernel) | (apply TL.callE (f := 39) [.agg (enc b.2).toArray, .agg (enc (⟨1, [46], hints, q, Slc.nil _⟩ : Nxt)).toArray] Tryd.call39; rfl; rfl; rfl; rfl; (exact fun _ hs => c_SameNV (a := b.2) (b := ⟨1, [46], hints, q, Slc.nil _⟩) (v := true) (decide_eq_true hb.1.1) hs.sat gb ⟨show I64 1 by decide, show LenOk [46] by decide, hh, hq, Slc.nil_good⟩)) | (apply GT.callE (f := 39) [.agg (enc b.2).toArray, .agg (enc (⟨1, [46], hints, q, Slc.nil _⟩ : Nxt)).toArray] Tryd.call39; rfl; rfl; rfl; rfl; rfl; rfl; (exact fun _ hs => c_SameNV (a := b.2) (b := ⟨1, [46], hints, q, Slc.nil _⟩) (v := true) (decide_eq_true hb.1.1) hs.sat gb ⟨show I64 1 by decide, show LenOk [46] by decide, hh, hq, Slc.nil_good⟩); decide +kernel) | (apply TL.callE (f := 28) [known.v, strV q.name, intV q.typ] Tryd.call28; rfl; rfl; rfl; rfl; (exact fun _ hs => c_Known10V hki hs.sat hk)) | (apply GT.callE (f := 28) [known.v, strV q.name, intV q.typ] Tryd.call28; rfl; rfl; rfl; rfl; rfl; rfl; (exact fun _ hs => c_Known10V hki hs.sat hk); decide +kernel) | (apply TL.val; rfl; rfl; (first | exact vpure | exact vread)) | (apply GT.pure; rfl; rfl; rfl; rfl; (first | exact vpure); decide +kernel) | (apply GT.read; rfl; rfl; rfl; rfl; (first | exact vpure | exact vread); decide +kernel) | (apply GT.done; decide +kernel; apply N.ofQ) | (apply GT.adv; rfl) | (apply TL.x; rfl; rfl; (first | exact xgrow | exact xput); intro _ _) | (apply GS.grow; rfl; rfl; (first | exact xgrow); intro _ _) | (apply GS.eff; rfl; decide +kernel; rfl; (first | exact xput); intro _ _) | (apply GT.pureAt 1; rfl; rfl; rfl; rfl; (first | exact vpure); decide +kernel) | (apply GT.readAt 1; rfl; rfl; rfl; rfl; (first | exact vpure | exact vread); decide +kernel) | (apply GT.pureAt 2; rfl; rfl; rfl; rfl; (first | exact vpure); decide +kernel) | (apply GT.readAt 2; rfl; rfl; rfl; rfl; (first | exact vpure | exact vread); decide +kernel) | (apply GT.pureAt 3; rfl; rfl; rfl; rfl; (first | exact vpure); decide +kernel) | (apply GT.readAt 3; rfl; rfl; rfl; rfl; (first | exact vpure | exact vread); decide +kernel) | (apply GT.pureAt 4; rfl; rfl; rfl; rfl; (first | exact vpure); decide +kernel) | (apply GT.readAt 4; rfl; rfl; rfl; rfl; (first | exact vpure | exact vread); decide +kernel) | (apply GT.pureAt 5; rfl; rfl; rfl; rfl; (first | exact vpure); decide +kernel) | (apply GT.readAt 5; rfl; rfl; rfl; rfl; (first | exact vpure | exact vread); decide +kernel) | (apply GT.pureAt 6; rfl; rfl; rfl; rfl; (first | exact vpure); decide +kernel) | (apply GT.readAt 6; rfl; rfl; rfl; rfl; (first | exact vpure | exact vread); decide +kernel) | (apply GT.pureAt 7; rfl; rfl; rfl; rfl; (first | exact vpure); decide +kernel) | (apply GT.readAt 7; rfl; rfl; rfl; rfl; (first | exact vpure | exact vread); decide +kernel) | (apply GT.pureAt 8; rfl; rfl; rfl; rfl; (first | exact vpure); decide +kernel) | (apply GT.readAt 8; rfl; rfl; rfl; rfl; (first | exact vpure | exact vread); decide +kernel) | (apply GT.pureAt 9; rfl; rfl; rfl; rfl; (first | exact vpure); decide +kernel) | (apply GT.readAt 9; rfl; rfl; rfl; rfl; (first | exact vpure | exact vread); decide +kernel) | (apply GT.pureAt 10; rfl; rfl; rfl; rfl; (first | exact vpure); decide +kernel) | (apply GT.readAt 10; rfl; rfl; rfl; rfl; (first | exact vpure | exact vread); decide +kernel) | (apply GT.pureAt 11; rfl; rfl; rfl; rfl; (first | exact vpure); decide +kernel) | (apply GT.readAt 11; rfl; rfl; rfl; rfl; (first | exact vpure | exact vread); decide +kernel) | (apply GT.pureAt 12; rfl; rfl; rfl; rfl; (first | exact vpure); decide +kernel) | (apply GT.readAt 12; rfl; rfl; rfl; rfl; (first | exact vpure | exact vread); decide +kernel) | (apply TL.guard; rfl; rfl; rfl; (with_reducible (first | exact Is.ndec | exact Is.dec | exact Is.not | ((fail_if_success exact Is.litT); (fail_if_success exact Is.litF); exact Is.base))); intro _; rotate_left; intro _; rotate_right) | (apply GT.guard; rfl; rfl; rfl; rfl; (with_reducible (first | exact Is.ndec | exact Is.dec | exact Is.not | ((fail_if_success exact Is.litT); (fail_if_success exact Is.litF); exact Is.base))); intro _; rotate_left; intro _; rotate_right) | (apply GT.fork1; decide +kernel) | (apply GT.fork2 1; decide +kernel) | (apply GT.fork2 2; decide +kernel) | (apply GT.fork2 3; decide +kernel) | (apply GT.fork2 4; decide +kernel) | (apply GT.fork2 5; decide +kernel) | (apply GT.fork2 6; decide +kernel) | (apply GT.fork2 7; decide +kernel) | (apply GT.fork2 8; decide +kernel) | (apply GT.fork2 9; decide +kernel) | (apply GT.fork2 10; decide +kernel) | (apply GT.fork2 11; decide +kernel) | (apply GT.fork2 12; decide +kernel) | (apply GT.fork2 13; decide +kernel) | (apply GT.fork2 14; decide +kernel) | (apply GT.fork2 15; decide +kernel) | (apply GT.fork2 16; decide +kernel) | (apply GT.fork2 17; decide +kernel) | (apply GT.fork2 18; decide +kernel) | (apply GT.fork2 19; decide +kernel) | (apply GT.fork2 20; decide +kernel) | (apply GT.fork2 21; decide +kernel) | (apply GT.fork2 22; decide +kernel) | (apply GT.fork2 23; decide +kernel)))
      all_goals (try contradiction)
      all_goals (refine N.ret_bool rfl (by (exact rvx)) ?_)
      all_goals rfl
    | some x =>
      obtain ⟨i, hi, hki, hix⟩ := knownS_at hf
      subst hix
      have hfc : findC (known.els.map Signed.c) q.name q.typ = some known.els[i].c := by rw [findS_c, hf]; rfl
      have hr1 := ask_done u2 u3 u4 hfc
      rw [hr] at hr1
      obtain rfl : r = ⟨2, [], [], qNil, [known.els[i].c]⟩ := congrArg Prod.fst hr1
      obtain ⟨sl, hsl⟩ : ∃ sl : Slc Signed, sl = ⟨if known.cap = i then known.A else known.A.map (·.add (i * 5)), 1, known.cap - i, [known.els[i]]⟩ := ⟨_, rfl⟩
      have hslg : ∀ {H' : Hp}, known.Good H' → (⟨if known.cap = i then known.A else known.A.map (·.add (i * 5)), 1, known.cap - i, [known.els[i]]⟩ : Slc Signed).Good H' := fun {H'} hg => by
        have h1 := (hg.drop (i := i) (by omega))
        have h2 := Slc.Good.to h1 (i := 1) (by show 1 ≤ known.len - i; omega)
        have e : ((known.drop i).to 1) = ⟨if known.cap = i then known.A else known.A.map (·.add (i * 5)), 1, known.cap - i, [known.els[i]]⟩ := by
          show (⟨_, 1, _, (known.els.drop i).take 1⟩ : Slc Signed) = _
          rw [List.drop_eq_getElem_cons hi]; rfl
        rw [← e]; exact h2
      have hi1 : i + 1 ≤ known.cap := by omega
      repeat (any_goals (first | refine T.seq ?_ | refine T.region ?_ | (apply T.regionD wide; rfl) | refine TL.nil ?_ | refine N.next ?_ | refine N.inBlock ?_ | refine N.exit_same ?_ | refine N.exit_then ?_ | refine N.ret_then ?_ | refine N.ret_block ?_ | (apply N.exit_other; rfl) | refine T.ret ?_ | refine T.skip ?_ | refine T.exit ?_ | refine T.block ?_ | (apply T.cond_true; rfl) | (apply T.cond_false; rfl) | (apply T.test; rfl; (with_reducible (first | exact Is.ndec | exact Is.dec | exact Is.not | ((fail_if_success exact Is.litT); (fail_if_success exact Is.litF); exact Is.base))); intro _; rotate_left; intro _; rotate_right) | (apply TL.skip; rfl; rfl; rfl) | (apply TL.skip_none; rfl; rfl) | (apply GT.skip; rfl; rfl; rfl; decide +kernel) | (apply GS.grow; rfl; rfl; (apply X.callR0 (f := 34) Tryd.call34; rfl; rfl; (exact fun _ hs => c_head28 _ _ hs.sat hR)); intro _ _) | (apply TL.call0 (f := 34) Tryd.call34; rfl; rfl; rfl; (exact fun _ hs => c_head28 _ _ hs.sat hR)) | (apply GT.call0 (f := 34) Tryd.call34; rfl; rfl; rfl; rfl; rfl; (exact fun _ hs => c_head28 _ _ hs.sat hR); decide +kernel) | (apply TL.callE (f := 40) [known.v, hints.v, .agg (enc q).toArray] Tryd.call40; rfl; rfl; rfl; rfl; (exact fun _ hs => c_usable28 known hints q hu hs.sat hk hh hq)) | (apply GT.callE (f := 40) [known.v, hints.v, .agg (enc q).toArray] Tryd.call40; rfl; rfl; rfl; rfl; rfl; rfl; (exact fun _ hs => c_usable28 known hints q hu hs.sat hk hh hq); decide +kernel) | (apply TL.x; rfl; rfl; (apply X.callFE (f := 35) [known.v, hints.v, .agg (enc q).toArray] Tryd.call35; rfl; rfl; rfl; exact (fun _ hs => c_iAskV hr hs.sat hR hk hh hq (few_sigs u1))); intro a ha; have ga := ha.1.2; have hR := Rules.mono ha.2 hR; have hk := hk.mono ha.2; have hh := hh.mono ha.2; have hq := Enc.mono ha.2 hq) | (apply TL.x; rfl; rfl; (apply X.storeTo 0 (enc a.2); rfl; rfl; rfl; rfl; rfl; rfl; rfl; rfl; rfl; rfl); intro _ _) | (apply GS.eff; rfl; decide +kernel; rfl; (apply X.storeTo 0 (enc a.2); rfl; rfl; rfl; rfl; rfl; rfl; rfl; rfl; rfl; rfl); intro _ _) | (apply TL.x; rfl; rfl; (apply X.callFE (f := 35) [.slice none 0 0, hints.v, .agg (enc q).toArray] Tryd.call35; rfl; rfl; rfl; exact (fun _ hs => c_iAskV (known := Slc.nil _) hn hs.sat hR Slc.nil_good hh hq (fun x hx => by cases hx))); intro b hb; have gb := hb.1.2; have ga := Enc.mono hb.2 ga; have hk := hk.mono hb.2; have hh := hh.mono hb.2; have hq := Enc.mono hb.2 hq) | (apply TL.x; rfl; rfl; (apply X.storeTo 0 (enc b.2); rfl; rfl; rfl; rfl; rfl; rfl; rfl; rfl; rfl; rfl); intro _ _) | (apply GS.eff; rfl; decide +kernel; rfl; (apply X.storeTo 0 (enc b.2); rfl; rfl; rfl; rfl; rfl; rfl; rfl; rfl; rfl; rfl); intro _ _) | (apply TL.val; rfl; rfl; (apply V.build; rfl; rfl; rfl; rfl; rfl; rfl)) | (apply GT.pure; rfl; rfl; rfl; rfl; (apply V.build; rfl; rfl; rfl; rfl; rfl; rfl); decide +kernel) | (apply GT.read; rfl; rfl; rfl; rfl; (apply V.build; rfl; rfl; rfl; rfl; rfl; rfl); decide +kernel) | (apply TL.callE (f := 39) [.agg (enc b.2).toArray, .agg (enc (⟨1, [46], hints, q, Slc.nil _⟩ : Nxt)).toArray] Tryd.call39; rfl; rfl; rfl; rfl; (exact fun _ hs => c_SameNV (a := b.2) (b := ⟨1, [46], hints, q, Slc.nil _⟩) (v := true) (decide_eq_true hb.1.1) hs.sat gb ⟨show I64 1 by decide, show LenOk [46] by decide, hh, hq, Slc.nil_good⟩)) | (apply GT.callE (f := 39) [.agg (enc b.2).toArray, .agg (enc (⟨1, [46], hints, q, Slc.nil _⟩ : Nxt)).toArray] Tryd.call39; rfl; rfl; rfl; rfl; rfl; rfl; (exact fun _ hs => c_SameNV (a := b.2) (b := ⟨1, [46], hints, q, Slc.nil _⟩) (v := true) (decide_eq_true hb.1.1) hs.sat gb ⟨show I64 1 by decide, show LenOk [46] by decide, hh, hq, Slc.nil_good⟩); decide +kernel) | (apply TL.callE (f := 28) [known.v, strV q.name, intV q.typ] Tryd.call28; rfl; rfl; rfl; rfl; (exact fun _ hs => c_Known10V hki hs.sat hk)) | (apply GT.callE (f := 28) [known.v, strV q.name, intV q.typ] Tryd.call28; rfl; rfl; rfl; rfl; rfl; rfl; (exact fun _ hs => c_Known10V hki hs.sat hk); decide +kernel) | (apply TL.val; rfl; rfl; (apply V.sliceOne i; rfl; rfl; rfl; rfl; rfl; rfl; rfl; rfl; exact hi1)) | (apply GT.pure; rfl; rfl; rfl; rfl; (apply V.sliceOne i; rfl; rfl; rfl; rfl; rfl; rfl; rfl; rfl; exact hi1); decide +kernel) | (apply GT.read; rfl; rfl; rfl; rfl; (apply V.sliceOne i; rfl; rfl; rfl; rfl; rfl; rfl; rfl; rfl; exact hi1); decide +kernel) | (apply GS.grow; rfl; rfl; (apply X.callRE (f := 39) [.agg (enc a.2).toArray, .agg (enc (⟨2, [], Slc.nil _, ⟨[], 0⟩, ⟨if known.cap = i then known.A else known.A.map (·.add (i * 5)), 1, known.cap - i, [known.els[i]]⟩⟩ : Nxt)).toArray] Tryd.call39; rfl; rfl; rfl; exact (fun _ hs => c_SameNV (a := a.2) (b := ⟨2, [], Slc.nil _, ⟨[], 0⟩, ⟨if known.cap = i then known.A else known.A.map (·.add (i * 5)), 1, known.cap - i, [known.els[i]]⟩⟩) (v := true) (decide_eq_true ha.1.1) hs.sat ga ⟨show I64 2 by decide, show LenOk [] by decide, Slc.nil_good, ⟨show LenOk [] by decide, show I64 0 by decide⟩, hslg hk⟩)); intro _ _) | (apply TL.val; rfl; rfl; (first | exact vpure | exact vread)) | (apply GT.pure; rfl; rfl; rfl; rfl; (first | exact vpure); decide +kernel) | (apply GT.read; rfl; rfl; rfl; rfl; (first | exact vpure | exact vread); decide +kernel) | (apply GT.done; decide +kernel; apply N.ofQ) | (apply GT.adv; rfl) | (apply TL.x; rfl; rfl; (first | exact xgrow | exact xput); intro _ _) | (apply GS.grow; rfl; rfl; (first | exact xgrow); intro _ _) | (apply GS.eff; rfl; decide +kernel; rfl; (first | exact xput); intro _ _) | (apply GT.pureAt 1; rfl; rfl; rfl; rfl; (first | exact vpure); decide +kernel) | (apply GT.readAt 1; rfl; rfl; rfl; rfl; (first | exact vpure | exact vread); decide +kernel) | (apply GT.pureAt 2; rfl; rfl; rfl; rfl; (first | exact vpure); decide +kernel) | (apply GT.readAt 2; rfl; rfl; rfl; rfl; (first | exact vpure | exact vread); decide +kernel) | (apply GT.pureAt 3; rfl; rfl; rfl; rfl; (first | exact vpure); decide +kernel) | (apply GT.readAt 3; rfl; rfl; rfl; rfl; (first | exact vpure | exact vread); decide +kernel) | (apply GT.pureAt 4; rfl; rfl; rfl; rfl; (first | exact vpure); decide +kernel) | (apply GT.readAt 4; rfl; rfl; rfl; rfl; (first | exact vpure | exact vread); decide +kernel) | (apply GT.pureAt 5; rfl; rfl; rfl; rfl; (first | exact vpure); decide +kernel) | (apply GT.readAt 5; rfl; rfl; rfl; rfl; (first | exact vpure | exact vread); decide +kernel) | (apply GT.pureAt 6; rfl; rfl; rfl; rfl; (first | exact vpure); decide +kernel) | (apply GT.readAt 6; rfl; rfl; rfl; rfl; (first | exact vpure | exact vread); decide +kernel) | (apply GT.pureAt 7; rfl; rfl; rfl; rfl; (first | exact vpure); decide +kernel) | (apply GT.readAt 7; rfl; rfl; rfl; rfl; (first | exact vpure | exact vread); decide +kernel) | (apply GT.pureAt 8; rfl; rfl; rfl; rfl; (first | exact vpure); decide +kernel) | (apply GT.readAt 8; rfl; rfl; rfl; rfl; (first | exact vpure | exact vread); decide +kernel) | (apply GT.pureAt 9; rfl; rfl; rfl; rfl; (first | exact vpure); decide +kernel) | (apply GT.readAt 9; rfl; rfl; rfl; rfl; (first | exact vpure | exact vread); decide +kernel) | (apply GT.pureAt 10; rfl; rfl; rfl; rfl; (first | exact vpure); decide +kernel) | (apply GT.readAt 10; rfl; rfl; rfl; rfl; (first | exact vpure | exact vread); decide +kernel) | (apply GT.pureAt 11; rfl; rfl; rfl; rfl; (first | exact vpure); decide +kernel) | (apply GT.readAt 11; rfl; rfl; rfl; rfl; (first | exact vpure | exact vread); decide +kernel) | (apply GT.pureAt 12; rfl; rfl; rfl; rfl; (first | exact vpure); decide +kernel) | (apply GT.readAt 12; rfl; rfl; rfl; rfl; (first | exact vpure | exact vread); decide +kernel) | (apply TL.guard; rfl; rfl; rfl; (with_reducible (first | exact Is.ndec | exact Is.dec | exact Is.not | ((fail_if_success exact Is.litT); (fail_if_success exact Is.litF); exact Is.base))); intro _; rotate_left; intro _; rotate_right) | (apply GT.guard; rfl; rfl; rfl; rfl; (with_reducible (first | exact Is.ndec | exact Is.dec | exact Is.not | ((fail_if_success exact Is.litT); (fail_if_success exact Is.litF); exact Is.base))); intro _; rotate_left; intro _; rotate_right) | (apply GT.fork1; decide +kernel) | (apply GT.fork2 1; decide +kernel) | (apply GT.fork2 2; decide +kernel) | (apply GT.fork2 3; decide +kernel) | (apply GT.fork2 4; decide +kernel) | (apply GT.fork2 5; decide +kernel) | (apply GT.fork2 6; decide +kernel) | (apply GT.fork2 7; decide +kernel) | (apply GT.fork2 8; decide +kernel) | (apply GT.fork2 9; decide +kernel) | (apply GT.fork2 10; decide +kernel) | (apply GT.fork2 11; decide +kernel) | (apply GT.fork2 12; decide +kernel) | (apply GT.fork2 13; decide +kernel) | (apply GT.fork2 14; decide +kernel) | (apply GT.fork2 15; decide +kernel) | (apply GT.fork2 16; decide +kernel) | (apply GT.fork2 17; decide +kernel) | (apply GT.fork2 18; decide +kernel) | (apply GT.fork2 19; decide +kernel) | (apply GT.fork2 20; decide +kernel) | (apply GT.fork2 21; decide +kernel) | (apply GT.fork2 22; decide +kernel) | (apply GT.fork2 23; decide +kernel)))
      all_goals (try contradiction)
      all_goals (try (exfalso; omega))
      all_goals (refine N.ret_bool rfl (by (exact rvx)) ?_)
      all_goals rfl
end Go.Proofs.YtfbhcemlnojejaaDoor
namespace Go.Proofs.YtfbhcemlnojejaaDoor
set_option linter.unusedVariables false
set_option linter.unusedSimpArgs false
open Go Go.RowKit
open Enc (enc)
set_option maxRecDepth 20000

theorem has_rev (K : List SignedC) (n : Bytes) (t : Int) : has K.reverse n t = has K n t := by
  have key : ∀ L : List SignedC, has L n t = L.any (isSet n t) := fun L => by
    unfold has findC
    rw [Bool.eq_iff_iff, List.find?_isSome, List.any_eq_true]
  rw [key, key, List.any_reverse]
theorem known_rev {K : List SignedC} (h : knownOK K = true) : knownOK K.reverse = true := by
  unfold knownOK at h ⊢
  rw [List.length_reverse, List.all_reverse]
  exact h
theorem zone_rev {K : List SignedC} {s : Bytes} (h : knownOK K = true) (hn : nameOK s = true) : zoneI K.reverse s = zoneI K s := by
  rw [zone_yes (known_rev h) hn, zone_yes h hn]
  simp only [has_rev]
theorem has_mem {K : List Signed} {x : Signed} (hx : x ∈ K) : has (K.map Signed.c) x.set.name x.set.typ = true := by
  unfold has findC
  rw [List.find?_isSome]
  exact ⟨x.c, List.mem_map_of_mem hx, by simp [isSet, Signed.c, RSet.c]⟩
theorem set_name {s : SetC} (h : setOK s = true) : nameOK s.name = true := by
  rw [setOK_eq, Bool.and_eq_true] at h
  have := h.1
  unfold headOK at this
  simp only [Bool.and_eq_true] at this
  exact this.1.1.1.1.1
set_option maxHeartbeats 8000000 in
theorem c_IZones (known : Slc Signed) (s : Bytes) (H : Hp) (w : World) (hs : Sat H w) (hR : Rules H) (hk : known.Good H) (hsl : LenOk s) : Calls Tryd.prog 13 #[known.v, strV s] w (Ret w (.bool true)) := by
  have hkl := hk.len
  have hklim := hk.lim
  refine T.enter (vs := [known.v, strV s]) (H := H) Tryd.func13 rfl rfl rfl hs ?_
  obtain ⟨b1, hb1⟩ : ∃ x, fewT (known.els.map Signed.c) = x := ⟨_, rfl⟩
  obtain ⟨b2, hb2⟩ : ∃ x, knownOK (known.els.map Signed.c) = x := ⟨_, rfl⟩
  obtain ⟨b3, hb3⟩ : ∃ x, nameOK s = x := ⟨_, rfl⟩
  by_cases hgo : b1 = true ∧ b2 = true ∧ b3 = true
  rotate_left
  · repeat (any_goals (first | (apply T.seqU 5; rfl) | refine T.region ?_ | refine TL.nil ?_ | refine N.next ?_ | refine N.inBlock ?_ | refine N.exit_same ?_ | refine N.exit_then ?_ | refine N.ret_then ?_ | refine N.ret_block ?_ | (apply N.exit_other; rfl) | refine T.ret ?_ | refine T.skip ?_ | refine T.exit ?_ | refine T.block ?_ | (apply T.cond_true; rfl) | (apply T.cond_false; rfl) | (apply T.test; rfl; (with_reducible (first | exact Is.ndec | exact Is.dec | exact Is.not | ((fail_if_success exact Is.litT); (fail_if_success exact Is.litF); exact Is.base))); intro _; rotate_left; intro _; rotate_right) | (apply TL.skip; rfl; rfl; rfl) | (apply TL.skip_none; rfl; rfl) | (apply TL.call0 (f := 34) Tryd.call34; rfl; rfl; rfl; (exact fun _ hs => c_head28 _ _ hs.sat hR)) | (apply TL.callE (f := 15) [known.v] Tryd.call15; rfl; rfl; rfl; rfl; (exact fun _ hs => hb1 ▸ c_Few10 known _ _ hs.sat hk)) | (apply TL.callE (f := 46) [known.v] Tryd.call46; rfl; rfl; rfl; rfl; (exact fun _ hs => hb2 ▸ c_Right28 known _ _ hs.sat hk)) | (apply TL.callE (f := 41) [strV s] Tryd.call41; rfl; rfl; rfl; rfl; (exact fun _ hs => hb3 ▸ c_nameValid01 s _ _ hs.sat hsl)) | (apply TL.val; rfl; rfl; (first | exact vpure | exact vread)) | (apply TL.x; rfl; rfl; (first | exact xgrow | exact xput); intro _ _) | (apply TL.guard; rfl; rfl; rfl; (with_reducible (first | exact Is.ndec | exact Is.dec | exact Is.not | ((fail_if_success exact Is.litT); (fail_if_success exact Is.litF); exact Is.base))); intro _; rotate_left; intro _; rotate_right)))
    all_goals (try contradiction)
    all_goals first
      | exact N.ret_bool rfl (by (exact rvx)) rfl
      | (exfalso; exact hgo ⟨by assumption, by assumption, by assumption⟩)
  · obtain ⟨rfl, rfl, rfl⟩ := hgo
    have hl60 := few_len hb1
    rw [List.length_map] at hl60
    have hs60 := nameOK_le hb3
    obtain ⟨z, hz⟩ : ∃ z, ((aboveC s).find? fun z => has (known.els.map Signed.c) z 2).getD [46] = z := ⟨_, rfl⟩
    have hzi : zoneI (known.els.map Signed.c) s = (z, 0) := by rw [zone_yes hb2 hb3, hz]
    obtain ⟨z1, z2, z3, z4⟩ := zone_found hb3 z hz.symm
    have hz60 := nameOK_le z1
    have hzl : LenOk z := Nat.le_trans hz60 (by decide)
    obtain ⟨kv, hkv⟩ : ∃ x, knownI (known.els.map Signed.c) z 2 = x := ⟨_, rfl⟩
    have hkv0 : z ≠ [46] → ¬ kv < 0 := fun h h1 => by
      rcases z3 with h2 | h2
      · exact h h2
      · rw [← hkv, knownI_neg] at h1
        unfold has at h2
        rw [h1] at h2; cases h2
    repeat (any_goals (first | refine T.seq ?_ | refine T.region ?_ | refine TL.nil ?_ | refine N.next ?_ | refine N.inBlock ?_ | refine N.exit_same ?_ | refine N.exit_then ?_ | refine N.ret_then ?_ | refine N.ret_block ?_ | (apply N.exit_other; rfl) | refine T.ret ?_ | refine T.skip ?_ | refine T.exit ?_ | refine T.block ?_ | (apply T.cond_true; rfl) | (apply T.cond_false; rfl) | (apply T.test; rfl; (with_reducible (first | exact Is.ndec | exact Is.dec | exact Is.not | ((fail_if_success exact Is.litT); (fail_if_success exact Is.litF); exact Is.base))); intro _; rotate_left; intro _; rotate_right) | (apply TL.skip; rfl; rfl; rfl) | (apply TL.skip_none; rfl; rfl) | (apply TL.call0 (f := 34) Tryd.call34; rfl; rfl; rfl; (exact fun _ hs => c_head28 _ _ hs.sat hR)) | (apply TL.callE (f := 15) [known.v] Tryd.call15; rfl; rfl; rfl; rfl; (exact fun _ hs => hb1 ▸ c_Few10 known _ _ hs.sat hk)) | (apply TL.callE (f := 46) [known.v] Tryd.call46; rfl; rfl; rfl; rfl; (exact fun _ hs => hb2 ▸ c_Right28 known _ _ hs.sat hk)) | (apply TL.callE (f := 41) [strV s] Tryd.call41; rfl; rfl; rfl; rfl; (exact fun _ hs => hb3 ▸ c_nameValid01 s _ _ hs.sat hsl)) | (apply TL.callE (f := 37) [known.v, strV s] Tryd.call37; rfl; rfl; rfl; rfl; (exact fun _ hs => c_iZoneV hzi hs.sat hR hk hsl)) | (apply TL.callE (f := 41) [strV z] Tryd.call41; rfl; rfl; rfl; rfl; (exact fun _ hs => z1 ▸ c_nameValid01 z _ _ hs.sat hzl)) | (apply TL.callE (f := 30) [strV s, strV z] Tryd.call30; rfl; rfl; rfl; rfl; (exact fun _ hs => z2 ▸ c_In s z _ _ hs.sat (by omega) (by omega))) | (apply TL.callE (f := 28) [known.v, strV z, intV 2] Tryd.call28; rfl; rfl; rfl; rfl; (exact fun _ hs => c_Known10V hkv hs.sat hk)) | (apply TL.val; rfl; rfl; (first | exact vpure | exact vread)) | (apply TL.x; rfl; rfl; (first | exact xgrow | exact xput); intro _ _) | (apply TL.guard; rfl; rfl; rfl; (with_reducible (first | exact Is.ndec | exact Is.dec | exact Is.not | ((fail_if_success exact Is.litT); (fail_if_success exact Is.litF); exact Is.base))); intro _; rotate_left; intro _; rotate_right)))
    all_goals (try contradiction)
    all_goals (try (exfalso; exact hkv0 (by assumption) (by assumption)))
    all_goals
      refine T.loop (G := Nat) (fun k => [(0, known.v), (1, strV s), (5, .bool true), (6, strV z), (58, known.v), (59, intV known.len), (60, intV k)]) (fun _ => H) (fun _ => []) (fun k => k ≤ known.len) (fun k => known.len - k) 0 (Nat.zero_le _) (by (repeat (first | exact True.intro | refine ⟨rfl, ?_⟩ | refine Sub.int rfl (by omega) ?_))) rfl (by (first | exact List.Sublist.refl _ | exact List.nil_sublist _ | exact List.Sublist.cons _ (List.Sublist.refl _) | exact List.Sublist.cons _ (List.Sublist.cons _ (List.Sublist.refl _)))) ?_
      intro k hk1
      by_cases hlt : k < known.len
      · have hkk : k < known.els.length := by omega
        have hmem := List.getElem_mem hkk
        have hgx := hk.els _ hmem
        have hxs := known_set hb2 (List.mem_map_of_mem (f := Signed.c) hmem)
        have hxn : nameOK (known.els[k]'hkk).set.name = true := set_name hxs
        have hx60 := nameOK_le hxn
        obtain ⟨v1, hv1⟩ : ∃ x, inN s (known.els[k]'hkk).set.name = x := ⟨_, rfl⟩
        obtain ⟨v2, hv2⟩ : ∃ x, inN z (known.els[k]'hkk).set.name = x := ⟨_, rfl⟩
        have hlaw : (known.els[k]'hkk).set.typ = 2 → v1 = true → v2 = true := fun h1 h2 => by
          have h3 := has_mem hmem
          rw [h1] at h3
          rw [← hv2]
          exact z4 _ h3 (hv1.trans h2)
        repeat (any_goals (first | refine T.seq ?_ | refine T.region ?_ | refine TL.nil ?_ | refine N.next ?_ | refine N.inBlock ?_ | refine N.exit_same ?_ | refine N.exit_then ?_ | refine N.ret_then ?_ | refine N.ret_block ?_ | (apply N.exit_other; rfl) | refine T.ret ?_ | refine T.skip ?_ | refine T.exit ?_ | refine T.block ?_ | (apply T.cond_true; rfl) | (apply T.cond_false; rfl) | (apply T.test; rfl; (with_reducible (first | exact Is.ndec | exact Is.dec | exact Is.not | ((fail_if_success exact Is.litT); (fail_if_success exact Is.litF); exact Is.base))); intro _; rotate_left; intro _; rotate_right) | (apply TL.skip; rfl; rfl; rfl) | (apply TL.skip_none; rfl; rfl) | (apply TL.x; rfl; rfl; (apply X.storeTo 0 (enc (known.els[k]'hkk)); rfl; rfl; rfl; rfl; rfl; rfl; rfl; rfl; rfl; rfl); intro _ _) | (apply TL.callE (f := 30) [strV s, strV (known.els[k]'hkk).set.name] Tryd.call30; rfl; rfl; rfl; rfl; (exact fun _ hs => hv1 ▸ c_In s (known.els[k]'hkk).set.name _ _ hs.sat (by omega) (by omega))) | (apply TL.callE (f := 30) [strV z, strV (known.els[k]'hkk).set.name] Tryd.call30; rfl; rfl; rfl; rfl; (exact fun _ hs => hv2 ▸ c_In z (known.els[k]'hkk).set.name _ _ hs.sat (by omega) (by omega))) | (apply TL.val; rfl; rfl; (first | exact vpure | exact vread)) | (apply TL.x; rfl; rfl; (first | exact xgrow | exact xput); intro _ _) | (apply TL.guard; rfl; rfl; rfl; (with_reducible (first | exact Is.ndec | exact Is.dec | exact Is.not | ((fail_if_success exact Is.litT); (fail_if_success exact Is.litF); exact Is.base))); intro _; rotate_left; intro _; rotate_right)))
        all_goals (try contradiction)
        all_goals (try (exfalso; omega))
        all_goals first
          | (exfalso
             have := hlaw (by assumption) (by assumption)
             subst this
             contradiction)
          | exact N.round (k + 1) (by show k + 1 ≤ _; omega) (by show known.len - (k + 1) < known.len - k; omega) (by (repeat (first | exact True.intro | refine ⟨rfl, ?_⟩ | refine Sub.int rfl (by omega) ?_))) rfl (List.nil_sublist _)
      · repeat (any_goals (first | refine T.seq ?_ | refine T.region ?_ | refine TL.nil ?_ | refine N.next ?_ | refine N.inBlock ?_ | refine N.exit_same ?_ | refine N.exit_then ?_ | refine N.ret_then ?_ | refine N.ret_block ?_ | (apply N.exit_other; rfl) | refine T.ret ?_ | refine T.skip ?_ | refine T.exit ?_ | refine T.block ?_ | (apply T.cond_true; rfl) | (apply T.cond_false; rfl) | (apply T.test; rfl; (with_reducible (first | exact Is.ndec | exact Is.dec | exact Is.not | ((fail_if_success exact Is.litT); (fail_if_success exact Is.litF); exact Is.base))); intro _; rotate_left; intro _; rotate_right) | (apply TL.skip; rfl; rfl; rfl) | (apply TL.skip_none; rfl; rfl) | (apply TL.val; rfl; rfl; (first | exact vpure | exact vread)) | (apply TL.x; rfl; rfl; (first | exact xgrow | exact xput); intro _ _) | (apply TL.guard; rfl; rfl; rfl; (with_reducible (first | exact Is.ndec | exact Is.dec | exact Is.not | ((fail_if_success exact Is.litT); (fail_if_success exact Is.litF); exact Is.base))); intro _; rotate_left; intro _; rotate_right)))
        all_goals (try (exfalso; omega))
        refine T.nilRow 37 5 ?_
        refine T.loop (G := Nat × List Signed × Value) (fun g => [(0, known.v), (1, strV s), (5, .bool true), (6, strV z), (85, intV known.len), (86, intV g.1), (10, g.2.2)]) (fun _ => H) (fun g => [.row g.2.2 37 5 g.2.1.length (encs g.2.1)]) (fun g => g.1 ≤ known.len ∧ g.2.1 = known.els.reverse.take g.1) (fun g => known.len - g.1) (0, [], .slice none 0 0) ⟨Nat.zero_le _, rfl⟩ (by (repeat (first | exact True.intro | refine ⟨rfl, ?_⟩ | refine Sub.int rfl (by omega) ?_))) rfl (List.Sublist.refl _) ?_
        rintro ⟨j, out, v⟩ ⟨hj, hout⟩
        simp only at hj hout ⊢
        have hol : out.length = j := by rw [hout, List.length_take, List.length_reverse]; omega
        have hog : ∀ y ∈ out, Enc.good H y := fun y hy => by
          rw [hout] at hy
          exact hk.els y (List.mem_reverse.1 (List.mem_of_mem_take hy))
        by_cases hjt : j < known.len
        · have hjl : known.len - 1 - j < known.els.length := by omega
          repeat (any_goals (first | refine T.seq ?_ | refine T.region ?_ | refine TL.nil ?_ | refine N.next ?_ | refine N.inBlock ?_ | refine N.exit_same ?_ | refine N.exit_then ?_ | refine N.ret_then ?_ | refine N.ret_block ?_ | (apply N.exit_other; rfl) | refine T.ret ?_ | refine T.skip ?_ | refine T.exit ?_ | refine T.block ?_ | (apply T.cond_true; rfl) | (apply T.cond_false; rfl) | (apply T.test; rfl; (with_reducible (first | exact Is.ndec | exact Is.dec | exact Is.not | ((fail_if_success exact Is.litT); (fail_if_success exact Is.litF); exact Is.base))); intro _; rotate_left; intro _; rotate_right) | (apply TL.skip; rfl; rfl; rfl) | (apply TL.skip_none; rfl; rfl) | (apply TL.val; rfl; rfl; (apply V.elem (j := known.len - 1 - j); rfl; rfl; rfl; rfl; rfl; omega; omega; exact hk.at_ (by omega))) | (apply TL.x; rfl; rfl; (apply X.append1 1; rfl; rfl; rfl; rfl; rfl; rfl; rfl; rfl; rfl; exact List.Mem.head _; rfl; rfl; rfl; (refine Nat.le_trans (Nat.mul_le_mul_left _ (show _ ≤ 1000 by decide)) ?_; show (out.length + 1) * 1000 ≤ _; omega); (show out.length + 1 ≤ _; omega)); intro p2 _) | (apply TL.val; rfl; rfl; (first | exact vpure | exact vread)) | (apply TL.x; rfl; rfl; (first | exact xgrow | exact xput); intro _ _) | (apply TL.guard; rfl; rfl; rfl; (with_reducible (first | exact Is.ndec | exact Is.dec | exact Is.not | ((fail_if_success exact Is.litT); (fail_if_success exact Is.litF); exact Is.base))); intro _; rotate_left; intro _; rotate_right)))
          all_goals (try (exfalso; omega))
          rename_i p2 _
          refine N.round (j + 1, out ++ [known.els[known.len - 1 - j]'hjl], .slice (some ⟨p2.1, 0, none⟩) (out.length + 1) p2.2) ⟨by show j + 1 ≤ _; omega, ?_⟩ (by show known.len - (j + 1) < known.len - j; omega) (by (repeat (first | exact True.intro | refine ⟨rfl, ?_⟩ | refine Sub.int rfl (by omega) ?_))) rfl ?_
          · show out ++ [_] = _
            rw [List.take_succ_eq_append_getElem (by rw [List.length_reverse]; omega), ← hout, List.getElem_reverse]
            simp only [hkl]
          · rw [List.length_append, encs_snoc]
            exact List.Sublist.cons _ (List.Sublist.refl _)
        · have houtr : out = known.els.reverse := by rw [hout]; exact List.take_of_length_le (by rw [List.length_reverse]; omega)
          refine T.frzRowE 0 out rfl rfl rfl rfl hog ?_
          intro H2 s2 e1 e2 hg2 hle2
          subst e1
          have hR2 := Rules.mono hle2 hR
          have hz2 : zoneI (s2.els.map Signed.c) s = (z, 0) := by
            rw [e2, houtr, List.map_reverse, zone_rev hb2 hb3]; exact hzi
          repeat (any_goals (first | refine T.seq ?_ | refine T.region ?_ | refine TL.nil ?_ | refine N.next ?_ | refine N.inBlock ?_ | refine N.exit_same ?_ | refine N.exit_then ?_ | refine N.ret_then ?_ | refine N.ret_block ?_ | (apply N.exit_other; rfl) | refine T.ret ?_ | refine T.skip ?_ | refine T.exit ?_ | refine T.block ?_ | (apply T.cond_true; rfl) | (apply T.cond_false; rfl) | (apply T.test; rfl; (with_reducible (first | exact Is.ndec | exact Is.dec | exact Is.not | ((fail_if_success exact Is.litT); (fail_if_success exact Is.litF); exact Is.base))); intro _; rotate_left; intro _; rotate_right) | (apply TL.skip; rfl; rfl; rfl) | (apply TL.skip_none; rfl; rfl) | (apply TL.callE (f := 37) [s2.v, strV s] Tryd.call37; rfl; rfl; rfl; rfl; (exact fun _ hs => c_iZoneV hz2 hs.sat hR2 hg2 hsl)) | (apply TL.val; rfl; rfl; (first | exact vpure | exact vread)) | (apply TL.x; rfl; rfl; (first | exact xgrow | exact xput); intro _ _) | (apply TL.guard; rfl; rfl; rfl; (with_reducible (first | exact Is.ndec | exact Is.dec | exact Is.not | ((fail_if_success exact Is.litT); (fail_if_success exact Is.litF); exact Is.base))); intro _; rotate_left; intro _; rotate_right)))
          all_goals (try (exfalso; omega))
          all_goals (try contradiction)
          refine N.ret_bool rfl (by (exact rvx)) ?_
          simp
end Go.Proofs.YtfbhcemlnojejaaDoor
