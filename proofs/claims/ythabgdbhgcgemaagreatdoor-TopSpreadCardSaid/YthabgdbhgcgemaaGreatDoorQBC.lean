import Derived.Test.YthabgdbhgcgemaaGreatDoorQBY
namespace Go.Proofs.YthabgdbhgcgemaaGreatDoor
set_option linter.unusedVariables false
set_option linter.unusedSimpArgs false
open Go Go.RowKit
open Enc (enc)
set_option maxRecDepth 20000
structure RightTo (l : List VersionV) (fin : Int) (i : Nat) : Prop where
  at0 : ∀ j (hj : j < l.length), j < i → 0 ≤ l[j].at_ ∧ l[j].at_ < fin
  zone : ∀ j (hj : j < l.length), j < i → ZonedR l[j].zone.c
  apex : ∀ j (hj : j < l.length), j < i → l[j].zone.apex = (l[0]'(by omega)).zone.apex
  step : ∀ j (hj : j + 1 < l.length), j + 1 < i → l[j].at_ < l[j + 1].at_ ∧ beforeS (serialC l[j].zone.c) (serialC l[j + 1].zone.c) = true
structure RightOK (l : List VersionV) (fin : Int) : Prop where
  n1 : 1 ≤ l.length
  fin1 : 1 ≤ fin
  fin2 : fin ≤ 10000000
  all : RightTo l fin l.length
theorem RightTo.nil {l : List VersionV} {fin : Int} : RightTo l fin 0 := ⟨fun j _ h => absurd h (Nat.not_lt_zero _), fun j _ h => absurd h (Nat.not_lt_zero _), fun j _ h => absurd h (Nat.not_lt_zero _), fun j _ h => absurd h (Nat.not_lt_zero _)⟩
theorem RightTo.next {l : List VersionV} {fin : Int} {i : Nat} (h : RightTo l fin i) (hi : i < l.length) {x z : VersionV} (hx : l[i] = x) (hw : l[0]'(Nat.lt_of_le_of_lt (Nat.zero_le _) hi) = z) (h0 : ¬ x.at_ < 0) (h1 : ¬ fin ≤ x.at_) (hz : ZonedR x.zone.c) (ha : x.zone.apex = z.zone.apex)
    (hs : ∀ p (hp : p + 1 = i), (l[p]'(by omega)).at_ < x.at_ ∧ beforeS (serialC (l[p]'(by omega)).zone.c) (serialC x.zone.c) = true) : RightTo l fin (i + 1) := by
  subst hx hw
  refine ⟨fun j hj hji => ?_, fun j hj hji => ?_, fun j hj hji => ?_, fun j hj hji => ?_⟩
  · by_cases e : j = i
    · subst e; omega
    · exact h.at0 j hj (by omega)
  · by_cases e : j = i
    · subst e; exact hz
    · exact h.zone j hj (by omega)
  · by_cases e : j = i
    · subst e; exact ha
    · exact h.apex j hj (by omega)
  · by_cases e : j + 1 = i
    · subst e; exact hs j rfl
    · exact h.step j hj (by omega)
section
variable {H : Hp} {w : World}
set_option maxHeartbeats 16000000 in
theorem c_Right15 (l : Slc VersionV) (fin : Int) (hs : Sat H w) (hg : l.Good H) : Calls Tryz.prog 14 #[l.v, intV fin] w (Tells w (RightOK l.els fin)) := by
  have hlen := hg.len
  have hlim := hg.lim
  refine T.enter (vs := [l.v, intV fin]) (H := H) Tryz.func14 rfl rfl rfl hs ?_
  by_cases hf : 1 ≤ fin ∧ fin ≤ 10000000
  case neg =>
    repeat (any_goals (first | refine T.seq ?_ | refine T.region ?_ | refine TL.nil ?_ | refine N.next ?_ | refine N.ret_then ?_ | refine T.ret ?_ | (apply T.cond_true; rfl) | (apply TL.skip; rfl; rfl; rfl) | (apply TL.callE (f := 13) [intV fin] Tryz.call13; (iterate 4 rfl); (exact fun _ hs => (decide_eq_false hf) ▸ c_End15 fin hs.sat)) | (apply TL.val; rfl; rfl; (first | exact vpure | exact vread))))
    all_goals (try contradiction)
    all_goals exact N.tellF rfl (by (exact rvx))
  obtain ⟨hf1, hf2⟩ := hf
  repeat (any_goals (first | refine T.seq ?_ | refine T.region ?_ | refine TL.nil ?_ | refine N.next ?_ | refine N.ret_then ?_ | refine T.ret ?_ | refine T.skip ?_ | refine T.block ?_ | (apply T.cond_true; rfl) | (apply T.test; rfl; (exact isx); intro _; rotate_left; intro _; rotate_right) | (apply TL.skip; rfl; rfl; rfl) | (apply TL.callE (f := 13) [intV fin] Tryz.call13; (iterate 4 rfl); (exact fun _ hs => (decide_eq_true (show 1 ≤ fin ∧ fin ≤ 10000000 from ⟨hf1, hf2⟩)) ▸ c_End15 fin hs.sat)) | (apply TL.val; rfl; rfl; (first | exact vpure | exact vread)) | (apply TL.guard; rfl; rfl; rfl; (exact isx); intro _; rotate_left; intro _; rotate_right)))
  all_goals (try contradiction)
  all_goals (try (first | exact N.tellF rfl (by (exact rvx)) | skip))
  rename_i hl1 hl2
  refine T.loop (G := Nat) (fun i => [(0, l.v), (1, intV fin), (5, intV i)]) (fun _ => H) (fun _ => []) (fun i => i ≤ l.len ∧ RightTo l.els fin i) (fun i => l.len - i) 0 ⟨Nat.zero_le _, RightTo.nil⟩ (by (repeat (first | exact True.intro | refine ⟨rfl, ?_⟩ | refine Sub.int rfl (by omega) ?_))) rfl (by (repeat (first | exact List.Sublist.refl _ | exact List.nil_sublist _ | apply List.Sublist.cons_cons | apply List.Sublist.cons))) ?_
  rintro i ⟨hi, hrel⟩
  by_cases hlt : i < l.len
  case neg =>
    repeat (any_goals (first | refine T.seq ?_ | refine T.region ?_ | (apply T.regionD wide; rfl) | refine TL.nil ?_ | refine N.next ?_ | refine N.exit_same ?_ | refine N.exit_then ?_ | refine N.ret_then ?_ | refine N.ret_block ?_ | refine T.ret ?_ | refine T.skip ?_ | refine T.exit ?_ | refine T.block ?_ | (apply T.cond_true; rfl) | (apply T.test; rfl; (exact isx); intro _; rotate_left; intro _; rotate_right) | (apply GT.skip; rfl; rfl; rfl; decide +kernel) | (apply TL.val; rfl; rfl; (first | exact vpure | exact vread)) | (apply GT.pure; (iterate 4 rfl); (first | exact vpure); decide +kernel) | (apply GT.read; (iterate 4 rfl); (first | exact vpure | exact vread); decide +kernel) | (apply GT.done; decide +kernel; apply N.ofQ) | (apply GT.guard; (iterate 4 rfl); (exact isx); intro _; rotate_left; intro _; rotate_right) | (apply GT.fork1; decide +kernel)))
    all_goals (try (exfalso; omega))
    have e : i = l.els.length := by omega
    subst e
    exact N.tellT rfl (by (exact rvx)) ⟨by omega, hf1, hf2, hrel⟩
  have hil : i < l.els.length := by omega
  have h0l : 0 < l.els.length := by omega
  have hxg := hg.els _ (List.getElem_mem hil)
  have hxp : (l.els[i]'hil).zone.apex.length ≤ 9223372036854775807 := hxg.2.1
  have hzp : (l.els[0]'h0l).zone.apex.length ≤ 9223372036854775807 := (hg.els _ (List.getElem_mem h0l)).2.1
  have c0 : H.cell l.b (l.o + i * 3 + 0) = some (intV (l.els[i]'hil).at_) := hg.cell (k := i) (j := 0) (by omega) rfl
  have c1 : H.cell l.b (l.o + i * 3 + 1) = some (strV (l.els[i]'hil).zone.apex) := hg.cell (k := i) (j := 1) (by omega) rfl
  have c2 : H.cell l.b (l.o + 0 * 3 + 1) = some (strV (l.els[0]'h0l).zone.apex) := hg.cell (k := 0) (j := 1) (by omega) rfl
  have cz := hg.part (k := i) (j := 1) (m := 2) hlt (vs := enc (l.els[i]'hil).zone) rfl
  obtain ⟨z, hz⟩ : ∃ z, l.els[0]'h0l = z := ⟨_, rfl⟩
  rw [hz] at c2 hzp
  obtain ⟨x, hx⟩ : ∃ x, l.els[i]'hil = x := ⟨_, rfl⟩
  have hnext := hrel.next hil hx hz
  rw [hx] at hxg hxp c0 c1 cz
  have hxg2 := hxg.2
  repeat (any_goals (first | refine T.seq ?_ | refine T.region ?_ | (apply T.regionD wide; rfl) | refine TL.nil ?_ | refine N.next ?_ | refine N.exit_same ?_ | refine N.exit_then ?_ | refine N.ret_then ?_ | refine N.ret_block ?_ | refine T.ret ?_ | refine T.skip ?_ | refine T.exit ?_ | refine T.block ?_ | (apply T.cond_true; rfl) | (apply T.test; rfl; (exact isx); intro _; rotate_left; intro _; rotate_right) | (apply GT.skip; rfl; rfl; rfl; decide +kernel) | (apply GT.pure; (iterate 4 rfl); (apply V.elem (j := i); (iterate 6 rfl); omega; exact hg.at_ (by omega)); decide +kernel) | (apply GT.pure; (iterate 4 rfl); (apply V.elem (j := 0); (iterate 6 rfl); omega; exact hg.at_ (by omega)); decide +kernel) | (apply GT.read; (iterate 4 rfl); (apply V.load_H; rfl; rfl; rfl; first | exact c0 | exact c1 | exact c2); decide +kernel) | (apply GT.read; (iterate 4 rfl); (apply V.load_H_row; rfl; rfl; rfl; exact cz; rfl); decide +kernel) | (apply GS.grow; rfl; rfl; (apply X.callG (f := 30) [.agg (enc x.zone).toArray] Tryz.call30; rfl; rfl; rfl; exact (fun _ hs => c_Valid06 x.zone hs.sat hxg.2)); intro v1 hv1) | (apply TL.val; rfl; rfl; (first | exact vpure | exact vread)) | (apply GT.pure; (iterate 4 rfl); (first | exact vpure); decide +kernel) | (apply GT.done; decide +kernel; apply N.ofQ) | (apply GT.adv; rfl) | (apply GT.guard; (iterate 4 rfl); (exact isx); intro _; rotate_left; intro _; rotate_right) | (apply GT.fork1; decide +kernel)))
  all_goals (try contradiction)
  all_goals (try (exfalso; omega))
  all_goals (try (first | exact N.tellF rfl (by (exact rvx)) | skip))
  have hxz := hv1 (by assumption)
  obtain ⟨n, hn⟩ : ∃ n, serialC x.zone.c = n := ⟨_, rfl⟩
  have hnr := hxz.serial
  rw [hn] at hnr
  have hrel2 : ∀ j (hj : j < l.els.length), j ≤ i → ZonedR (l.els[j]'hj).zone.c := fun j hj hji => by
    by_cases e : j = i
    · subst e; rw [hx]; exact hxz
    · exact hrel.zone j hj (by omega)
  refine T.loop (G := Nat) (fun k => [(0, l.v), (1, intV fin), (5, intV i), (6, intV k)]) (fun _ => H) (fun _ => []) (fun k => k ≤ i) (fun k => i - k) 0 (Nat.zero_le _) (by (repeat (first | exact True.intro | refine ⟨rfl, ?_⟩ | refine Sub.int rfl (by omega) ?_))) rfl (by (repeat (first | exact List.Sublist.refl _ | exact List.nil_sublist _ | apply List.Sublist.cons_cons | apply List.Sublist.cons))) ?_
  intro k hk
  by_cases hki : k < i
  case pos =>
    have hkl : k < l.els.length := by omega
    have hyg := hg.els _ (List.getElem_mem hkl)
    have hyz := hrel2 k hkl (by omega)
    have dz := hg.part (k := k) (j := 1) (m := 2) (by omega) (vs := enc (l.els[k]'hkl).zone) rfl
    obtain ⟨y, hy⟩ : ∃ y, l.els[k]'hkl = y := ⟨_, rfl⟩
    rw [hy] at hyg hyz dz
    obtain ⟨q, hq⟩ : ∃ q, serialC y.zone.c = q := ⟨_, rfl⟩
    repeat (any_goals (first | refine T.seq ?_ | refine T.region ?_ | (apply T.regionD wide; rfl) | refine TL.nil ?_ | refine N.next ?_ | refine N.inBlock ?_ | refine N.exit_same ?_ | refine N.exit_then ?_ | refine N.ret_then ?_ | refine N.ret_block ?_ | refine T.ret ?_ | refine T.skip ?_ | refine T.exit ?_ | refine T.block ?_ | (apply T.cond_false; rfl) | (apply T.test; rfl; (exact isx); intro _; rotate_left; intro _; rotate_right) | (apply GT.skip; rfl; rfl; rfl; decide +kernel) | (apply GT.pure; (iterate 4 rfl); (apply V.elem (j := k); (iterate 6 rfl); omega; exact hg.at_ (by omega)); decide +kernel) | (apply GT.pure; (iterate 4 rfl); (apply V.elem (j := i); (iterate 6 rfl); omega; exact hg.at_ (by omega)); decide +kernel) | (apply GT.read; (iterate 4 rfl); (apply V.load_H_row; rfl; rfl; rfl; (first | exact cz | exact dz); rfl); decide +kernel) | (apply GT.callE (f := 15) [.agg (enc y.zone).toArray] Tryz.call15; (iterate 6 rfl); (exact fun _ hs => c_SerialOf y.zone hyz hq hs.sat hyg.2); decide +kernel) | (apply GT.callE (f := 15) [.agg (enc x.zone).toArray] Tryz.call15; (iterate 6 rfl); (exact fun _ hs => c_SerialOf x.zone hxz hn hs.sat hxg2); decide +kernel) | (apply GT.callE (f := 10) [.agg (enc y.zone).toArray, .agg (enc x.zone).toArray] Tryz.call10; (iterate 6 rfl); (exact fun _ hs => c_SameZone y.zone x.zone hs.sat hyg.2 hxg2); decide +kernel) | (apply TL.val; rfl; rfl; (first | exact vpure | exact vread)) | (apply GT.pure; (iterate 4 rfl); (first | exact vpure); decide +kernel) | (apply GT.done; decide +kernel; apply N.ofQ) | (apply GT.pureAt 7; (iterate 4 rfl); (first | exact vpure); decide +kernel) | (apply GT.pureAt 8; (iterate 4 rfl); (first | exact vpure); decide +kernel) | (apply GT.pureAt 9; (iterate 4 rfl); (first | exact vpure); decide +kernel) | (apply GT.pureAt 10; (iterate 4 rfl); (first | exact vpure); decide +kernel) | (apply GT.guard; (iterate 4 rfl); (exact isx); intro _; rotate_left; intro _; rotate_right) | (apply GT.fork2 11; decide +kernel)))
    all_goals (try contradiction)
    all_goals (try (exfalso; omega))
    all_goals first
      | exact N.tellF rfl (by (exact rvx))
      | exact N.round (k + 1) (by omega) (by show i - (k + 1) < i - k; omega) (by (repeat (first | exact True.intro | refine ⟨rfl, ?_⟩ | refine Sub.int rfl (by omega) ?_))) rfl (by (repeat (first | exact List.Sublist.refl _ | exact List.nil_sublist _ | apply List.Sublist.cons_cons | apply List.Sublist.cons)))
      | trace_state
  have hke : k = i := by omega
  subst hke
  by_cases hk0 : k = 0
  · subst hk0
    repeat (any_goals (first | refine T.seq ?_ | refine T.region ?_ | refine TL.nil ?_ | refine N.next ?_ | refine N.inBlock ?_ | refine N.exit_same ?_ | refine N.exit_then ?_ | refine T.skip ?_ | refine T.exit ?_ | (apply T.cond_false; rfl) | (apply TL.val; rfl; rfl; (first | exact vpure | exact vread))))
    all_goals (try contradiction)
    all_goals (try (exfalso; omega))
    all_goals first
      | exact N.round 1 ⟨by omega, hnext (by omega) (by omega) hxz (by assumption) (fun p hp => by omega)⟩ (by show l.len - 1 < l.len - 0; omega) (by (repeat (first | exact True.intro | refine ⟨rfl, ?_⟩ | refine Sub.int rfl (by omega) ?_))) rfl (by (repeat (first | exact List.Sublist.refl _ | exact List.nil_sublist _ | apply List.Sublist.cons_cons | apply List.Sublist.cons)))
      | trace_state
  · obtain ⟨p, rfl⟩ : ∃ p, k = p + 1 := ⟨k - 1, by omega⟩
    have hpl : p < l.els.length := by omega
    have hyg := hg.els _ (List.getElem_mem hpl)
    have hyz := hrel2 p hpl (by omega)
    have d0 : H.cell l.b (l.o + p * 3 + 0) = some (intV (l.els[p]'hpl).at_) := hg.cell (k := p) (j := 0) (by omega) rfl
    have dz := hg.part (k := p) (j := 1) (m := 2) (by omega) (vs := enc (l.els[p]'hpl).zone) rfl
    obtain ⟨y, hy⟩ : ∃ y, l.els[p]'hpl = y := ⟨_, rfl⟩
    rw [hy] at hyg hyz d0 dz
    obtain ⟨q, hq⟩ : ∃ q, serialC y.zone.c = q := ⟨_, rfl⟩
    have hqr := hyz.serial
    rw [hq] at hqr
    obtain ⟨r, hr⟩ : ∃ r, beforeS q n = r := ⟨_, rfl⟩
    have hnext := fun h0 h1 ha h2 => hnext h0 h1 hxz ha (fun p' hp' => by
      have : p' = p := by omega
      subst this
      rw [hy, hq, hn]; exact h2)
    cases r with
    | false =>
      repeat (any_goals (first | refine T.seq ?_ | refine T.region ?_ | (apply T.regionD wide; rfl) | refine TL.nil ?_ | refine N.next ?_ | refine N.inBlock ?_ | refine N.exit_same ?_ | refine N.exit_then ?_ | refine N.ret_then ?_ | refine N.ret_block ?_ | refine T.ret ?_ | refine T.skip ?_ | refine T.exit ?_ | refine T.block ?_ | (apply T.cond_true; rfl) | (apply T.cond_false; rfl) | (apply T.test; rfl; (exact isx); intro _; rotate_left; intro _; rotate_right) | (apply GT.skip; rfl; rfl; rfl; decide +kernel) | (apply GT.pure; (iterate 4 rfl); (apply V.elem (j := p); (iterate 5 rfl); omega; omega; exact hg.at_ (by omega)); decide +kernel) | (apply GT.pure; (iterate 4 rfl); (apply V.elem (j := p + 1); (iterate 6 rfl); omega; exact hg.at_ (by omega)); decide +kernel) | (apply GT.read; (iterate 4 rfl); (apply V.load_H; rfl; rfl; rfl; first | exact c0 | exact d0); decide +kernel) | (apply GT.read; (iterate 4 rfl); (apply V.load_H_row; rfl; rfl; rfl; (first | exact cz | exact dz); rfl); decide +kernel) | (apply GT.callE (f := 15) [.agg (enc y.zone).toArray] Tryz.call15; (iterate 6 rfl); (exact fun _ hs => c_SerialOf y.zone hyz hq hs.sat hyg.2); decide +kernel) | (apply GT.callE (f := 15) [.agg (enc x.zone).toArray] Tryz.call15; (iterate 6 rfl); (exact fun _ hs => c_SerialOf x.zone hxz hn hs.sat hxg2); decide +kernel) | (apply GT.callE (f := 31) [intV q, intV n] Tryz.call31; (iterate 6 rfl); (exact fun _ hs => c_Less11 q n hqr hnr hr hs.sat); decide +kernel) | (apply TL.val; rfl; rfl; (first | exact vpure | exact vread)) | (apply GT.pure; (iterate 4 rfl); (first | exact vpure); decide +kernel) | (apply GT.done; decide +kernel; apply N.ofQ) | (apply GT.guard; (iterate 4 rfl); (exact isx); intro _; rotate_left; intro _; rotate_right) | (apply GT.fork1; decide +kernel)))
      all_goals (try contradiction)
      all_goals (try (exfalso; omega))
      all_goals first
        | exact N.tellF rfl (by (exact rvx))
        | trace_state
    | true =>
      repeat (any_goals (first | refine T.seq ?_ | refine T.region ?_ | (apply T.regionD wide; rfl) | refine TL.nil ?_ | refine N.next ?_ | refine N.inBlock ?_ | refine N.exit_same ?_ | refine N.exit_then ?_ | refine N.ret_then ?_ | refine N.ret_block ?_ | refine T.ret ?_ | refine T.skip ?_ | refine T.exit ?_ | refine T.block ?_ | (apply T.cond_true; rfl) | (apply T.cond_false; rfl) | (apply T.test; rfl; (exact isx); intro _; rotate_left; intro _; rotate_right) | (apply GT.skip; rfl; rfl; rfl; decide +kernel) | (apply GT.pure; (iterate 4 rfl); (apply V.elem (j := p); (iterate 5 rfl); omega; omega; exact hg.at_ (by omega)); decide +kernel) | (apply GT.pure; (iterate 4 rfl); (apply V.elem (j := p + 1); (iterate 6 rfl); omega; exact hg.at_ (by omega)); decide +kernel) | (apply GT.read; (iterate 4 rfl); (apply V.load_H; rfl; rfl; rfl; first | exact c0 | exact d0); decide +kernel) | (apply GT.read; (iterate 4 rfl); (apply V.load_H_row; rfl; rfl; rfl; (first | exact cz | exact dz); rfl); decide +kernel) | (apply GT.callE (f := 15) [.agg (enc y.zone).toArray] Tryz.call15; (iterate 6 rfl); (exact fun _ hs => c_SerialOf y.zone hyz hq hs.sat hyg.2); decide +kernel) | (apply GT.callE (f := 15) [.agg (enc x.zone).toArray] Tryz.call15; (iterate 6 rfl); (exact fun _ hs => c_SerialOf x.zone hxz hn hs.sat hxg2); decide +kernel) | (apply GT.callE (f := 31) [intV q, intV n] Tryz.call31; (iterate 6 rfl); (exact fun _ hs => c_Less11 q n hqr hnr hr hs.sat); decide +kernel) | (apply TL.val; rfl; rfl; (first | exact vpure | exact vread)) | (apply GT.pure; (iterate 4 rfl); (first | exact vpure); decide +kernel) | (apply GT.done; decide +kernel; apply N.ofQ) | (apply GT.guard; (iterate 4 rfl); (exact isx); intro _; rotate_left; intro _; rotate_right) | (apply GT.fork1; decide +kernel)))
      all_goals (try contradiction)
      all_goals (try (exfalso; omega))
      all_goals first
        | exact N.tellF rfl (by (exact rvx))
        | exact N.round (p + 1 + 1) ⟨by omega, hnext (by omega) (by omega) (by assumption) ⟨by omega, hr⟩⟩ (by show l.len - (p + 1 + 1) < l.len - (p + 1); omega) (by (repeat (first | exact True.intro | refine ⟨rfl, ?_⟩ | refine Sub.int rfl (by omega) ?_))) rfl (by (repeat (first | exact List.Sublist.refl _ | exact List.nil_sublist _ | apply List.Sublist.cons_cons | apply List.Sublist.cons)))
        | trace_state
end
end Go.Proofs.YthabgdbhgcgemaaGreatDoor
