import Derived.Test.YthabgdbhgcgemaaGreatDoorQZB
namespace Go.Proofs.YthabgdbhgcgemaaGreatDoor
set_option linter.unusedVariables false
set_option linter.unusedSimpArgs false
open Go Go.RowKit
open Enc (enc)
set_option maxRecDepth 20000
section
set_option linter.unusedSectionVars false
variable {κ : Type} [DecidableEq κ] (le un : κ → κ → Bool) (H : List κ)
def ptrO (k : Nat) (N : List κ) (i : Nat) : Nat := (N.take i).foldl (fun k n => advO le H k n) k
theorem ptrO_next {k : Nat} {N : List κ} {i : Nat} (hi : i < N.length) : ptrO le H k N (i + 1) = advO le H (ptrO le H k N i) N[i] := by
  unfold ptrO
  rw [List.take_succ_eq_append_getElem hi, List.foldl_append]; rfl
theorem behO_get : ∀ (N : List κ) (k i : Nat) (hi : i < N.length), (behO le un H k N)[i]? = some (behAt un H (ptrO le H k N (i + 1)) N[i])
  | [], _, _, hi => by simp at hi
  | n :: r, k, 0, _ => rfl
  | n :: r, k, i + 1, hi => by
    have := behO_get r (advO le H k n) i (by simpa using hi)
    unfold behO
    rw [List.getElem?_cons_succ, this]
    rfl
theorem behO_len : ∀ (N : List κ) (k : Nat), (behO le un H k N).length = N.length
  | [], _ => rfl
  | n :: r, k => by unfold behO; rw [List.length_cons, List.length_cons, behO_len r]
theorem ptrO_le {k : Nat} (hk : k ≤ H.length) (N : List κ) : ∀ i, ptrO le H k N i ≤ H.length
  | 0 => hk
  | i + 1 => by
    rcases Nat.lt_or_ge i N.length with h | h
    · rw [ptrO_next le H h]; exact advO_len (ptrO_le hk N i)
    · have e : ptrO le H k N (i + 1) = ptrO le H k N i := by unfold ptrO; rw [List.take_of_length_le (by omega), List.take_of_length_le h]
      rw [e]; exact ptrO_le hk N i
end
def behT (l : List (Option Bytes)) : List Bytes := l.map (·.getD [])
def outsUp (B : List Bytes) (i : Nat) : List Bytes := B.take i ++ List.replicate (B.length - i) []
theorem outsUp_len {B : List Bytes} {i : Nat} (hi : i ≤ B.length) : (outsUp B i).length = B.length := by
  unfold outsUp; rw [List.length_append, List.length_take, List.length_replicate]; omega
theorem outsUp_at {B : List Bytes} {i : Nat} (hi : i < B.length) : (outsUp B i)[i]? = some [] := by
  unfold outsUp
  rw [List.getElem?_append_right (by rw [List.length_take]; omega), List.length_take, List.getElem?_replicate, if_pos (by omega)]
theorem outsUp_next {B : List Bytes} {i : Nat} (hi : i < B.length) : outsUp B (i + 1) = (outsUp B i).set i B[i] := by
  unfold outsUp
  apply List.ext_getElem?
  intro j
  rw [List.getElem?_set]
  by_cases e : i = j
  · subst e
    rw [if_pos rfl, if_pos (by rw [List.length_append, List.length_take, List.length_replicate]; omega), List.getElem?_append_left (by rw [List.length_take]; omega), List.getElem?_take_of_lt (by omega), List.getElem?_eq_getElem hi]
  · rw [if_neg e]
    rcases Nat.lt_or_ge j i with h | h
    · rw [List.getElem?_append_left (by rw [List.length_take]; omega), List.getElem?_append_left (by rw [List.length_take]; omega), List.getElem?_take_of_lt (by omega), List.getElem?_take_of_lt h]
    · rw [List.getElem?_append_right (by rw [List.length_take]; omega), List.getElem?_append_right (by rw [List.length_take]; omega), List.length_take, List.length_take, List.getElem?_replicate, List.getElem?_replicate]
      by_cases h2 : j < B.length
      · rw [if_pos (by omega), if_pos (by omega)]
      · rw [if_neg (by omega), if_neg (by omega)]
theorem outsUp_same {B : List Bytes} {i : Nat} (hi : i < B.length) (h : B[i] = []) : outsUp B (i + 1) = outsUp B i := by
  rw [outsUp_next hi, h]
  apply List.ext_getElem?
  intro j
  rw [List.getElem?_set]
  by_cases e : i = j
  · subst e
    rw [if_pos rfl, outsUp_at hi, if_pos (by rw [outsUp_len (by omega)]; exact hi)]
  · rw [if_neg e]
theorem outsUp_all {B : List Bytes} {i : Nat} (hi : B.length ≤ i) : outsUp B i = B := by
  unfold outsUp; rw [List.take_of_length_le hi, show B.length - i = 0 by omega]; simp
theorem namesZ_at {z : ZoneV} {i : Nat} (hi : i < z.sets.els.length) (h : i < (namesZ z.c).length) : (namesZ z.c)[i] = z.sets.els[i].set.name := by
  have e : (namesZ z.c)[i]? = some z.sets.els[i].set.name := by
    unfold namesZ ZoneV.c
    rw [List.getElem?_map, List.getElem?_map, List.getElem?_eq_getElem hi]; rfl
  rw [List.getElem?_eq_getElem h] at e
  exact Option.some.inj e
theorem namesZ_len (z : ZoneV) : (namesZ z.c).length = z.sets.els.length := by unfold namesZ ZoneV.c; rw [List.length_map, List.length_map]
theorem cutNames_ok {z : ZoneC} (h : OneZ z) : ∀ c ∈ cutNames z, nameOK c = true := fun c hc => by
  obtain ⟨s, hs, _, _, rfl⟩ := cutNames_mem.1 hc
  exact h.nameMem hs
theorem highC_mem {C : List Bytes} {x : Bytes} (h : x ∈ highC inN C) : x ∈ C := by
  rw [← hiUp_all (Nat.le_refl _)] at h
  exact hiUp_mem h
theorem highC_len (C : List Bytes) : (highC inN C).length ≤ C.length := by
  rw [← hiUp_all (Nat.le_refl _)]; exact hiUp_len C _
set_option maxHeartbeats 8000000 in
theorem c_Behind (z : ZoneV) (hO : OneZ z.c) {H : Hp} {w : World} (hs : Sat H w) (hz : Enc.good H z) : Calls Tryz.prog 124 #[.agg (enc z).toArray] w (RetF w H (fun p : Hp × Slc Bytes => p.2.els = behT (behRZ z.c) ∧ p.2.Good p.1) (fun p => p.2.v) (fun p => p.1)) := by
  have hzl := hz.2.len
  have hf : z.sets.len ≤ 20000 := by
    have := hO.few
    unfold ZoneV.c at this
    rw [List.length_map] at this
    omega
  have hcn := cutNames_ok hO
  have hclen : (cutNames z.c).length ≤ z.sets.len := by
    rw [← cutsUp_all z (Nat.le_refl _), hzl]; exact cutsUp_len z _
  have hhl := highC_len (cutNames z.c)
  obtain ⟨Hh, hHh⟩ : ∃ Hh, highC inN (cutNames z.c) = Hh := ⟨_, rfl⟩
  have hhn : ∀ x ∈ Hh, nameOK x = true := fun x hx => hcn x (highC_mem (hHh ▸ hx))
  rw [hHh] at hhl
  obtain ⟨Nm, hN⟩ : ∃ Nm, namesZ z.c = Nm := ⟨_, rfl⟩
  have hNl : Nm.length = z.sets.len := by rw [← hN, namesZ_len, hzl]
  obtain ⟨B, hB⟩ : ∃ B, behT (behRZ z.c) = B := ⟨_, rfl⟩
  have hBl : B.length = z.sets.len := by rw [← hB]; unfold behT behRZ; rw [List.length_map, behO_len, hN, hNl]
  have hBa : ∀ i (hi : i < Nm.length), ∃ h : i < B.length, B[i] = (behAt inN Hh (ptrO leN Hh 0 Nm (i + 1)) Nm[i]).getD [] := fun i hi => by
    refine ⟨by omega, ?_⟩
    have := behO_get leN inN Hh Nm 0 i hi
    have h2 : B[i]? = some ((behAt inN Hh (ptrO leN Hh 0 Nm (i + 1)) Nm[i]).getD []) := by
      rw [← hB]
      unfold behT behRZ
      rw [List.getElem?_map, hN, hHh, this]; rfl
    rw [List.getElem?_eq_getElem (by omega)] at h2
    exact Option.some.inj h2
  refine T.enter (vs := [.agg (enc z).toArray]) (H := H) Tryz.func124 rfl rfl rfl hs ?_
  repeat (any_goals (first | refine T.seq ?_ | refine T.region ?_ | refine TL.nil ?_ | refine N.next ?_ | refine T.block ?_ | (apply TL.x; rfl; rfl; (apply X.box (d := 1); rfl; rfl; rfl); intro b1 _) | (apply TL.x; rfl; rfl; (apply X.callFE (f := 150) [.agg (enc z).toArray] Tryz.call150; rfl; rfl; rfl; exact (fun _ hs => c_Highest z hf hcn hs.sat hz)); intro p hp) | (apply TL.x; rfl; rfl; (apply X.makeSlice ([] : Bytes) z.sets.len; (iterate 10 rfl); (refine Nat.le_trans (Nat.mul_le_mul_left _ hf) ?_; decide); (show z.sets.len ≤ 9223372036854775807; omega)); intro bo _) | (apply TL.val; rfl; rfl; (first | exact vpure | exact vread))))
  obtain ⟨⟨hpe, hpg⟩, hple⟩ := hp
  rw [hHh] at hpe
  have hplen := hpg.len
  rw [hpe] at hplen
  have hzg := Enc.mono hple hz
  rw [hB]
  have h0 : encs (List.replicate z.sets.len ([] : Bytes)) = encs (outsUp B 0) := by unfold outsUp; rw [List.take_zero, List.nil_append, Nat.sub_zero, hBl]
  rw [h0]
  refine T.loop (G := Nat) (fun i => [(1, .pointer (some ⟨b1, 0, none⟩)), (3, p.2.v), (4, .slice (some ⟨bo, 0, none⟩) z.sets.len z.sets.len), (5, intV (ptrO leN Hh 0 Nm i)), (6, intV i)]) (fun _ => p.1) (fun i => [.row (.slice (some ⟨bo, 0, none⟩) z.sets.len z.sets.len) 9 1 z.sets.len (encs (outsUp B i)), .blk b1 32 (enc z)]) (fun i => i ≤ z.sets.len) (fun i => z.sets.len - i) 0 (Nat.zero_le _) (by (repeat (first | exact True.intro | refine ⟨rfl, ?_⟩ | refine Sub.int rfl (by omega) ?_))) rfl (by (repeat (first | exact List.Sublist.refl _ | exact List.nil_sublist _ | apply List.Sublist.cons_cons | apply List.Sublist.cons))) ?_
  intro i hi
  by_cases hlt : i < z.sets.len
  · have hiz : i < z.sets.els.length := by omega
    have hiN : i < Nm.length := by omega
    obtain ⟨hiB, hBi⟩ := hBa i hiN
    have hni : Nm[i] = z.sets.els[i].set.name := by subst hN; exact namesZ_at hiz hiN
    have hnok : nameOK z.sets.els[i].set.name = true := by
      have := hO.nameAt (i := i) (by unfold ZoneV.c; rw [List.length_map]; exact hiz)
      unfold ZoneV.c at this
      rw [List.getElem_map] at this
      exact this
    have hn60 := name_len60 hnok
    obtain ⟨n, hn⟩ : ∃ n, z.sets.els[i].set.name = n := ⟨_, rfl⟩
    rw [hn] at hni hnok hn60
    have hnx := ptrO_next leN Hh (k := 0) hiN
    have hk0 := ptrO_le leN Hh (Nat.zero_le _) Nm i
    rw [hnx, hni] at hBi
    obtain ⟨k0, hk0e⟩ : ∃ k0, ptrO leN Hh 0 Nm i = k0 := ⟨_, rfl⟩
    rw [hni] at hnx
    rw [hk0e] at hBi hnx hk0 ⊢
    have hnc := hzg.2.cell (k := i) (j := 0) hlt (v := strV n) (by show some (strV z.sets.els[i].set.name) = _; rw [hn])
    repeat (any_goals (first | (apply T.seqU 10; rfl) | refine T.region ?_ | refine TL.nil ?_ | refine N.next ?_ | refine N.exit_same ?_ | refine N.exit_then ?_ | refine T.ret ?_ | refine T.skip ?_ | refine T.exit ?_ | refine T.block ?_ | (apply T.test; rfl; (exact isx); intro _; rotate_left; intro _; rotate_right) | (apply TL.val; rfl; rfl; (apply V.elem (j := i); (iterate 6 rfl); omega; exact hzg.2.at_ (by omega))) | (apply TL.val; rfl; rfl; (apply V.load_H; rfl; rfl; rfl; exact hnc)) | (apply TL.val; rfl; rfl; (first | exact vpure | exact vread))))
    all_goals (try (exfalso; omega))
    obtain ⟨k1, hk1e⟩ : ∃ k1, advO leN Hh k0 n = k1 := ⟨_, rfl⟩
    refine T.cut (G := Unit) (fun _ => [(1, .pointer (some ⟨b1, 0, none⟩)), (3, p.2.v), (4, .slice (some ⟨bo, 0, none⟩) z.sets.len z.sets.len), (5, intV k1), (6, intV i), (7, strV n)]) (fun _ => p.1) (fun _ => [.row (.slice (some ⟨bo, 0, none⟩) z.sets.len z.sets.len) 9 1 z.sets.len (encs (outsUp B i)), .blk b1 32 (enc z)]) (fun _ => True) ?_ ?_
    · repeat (any_goals (first | refine T.block ?_))
      refine T.loop (G := Nat) (fun k => [(1, .pointer (some ⟨b1, 0, none⟩)), (3, p.2.v), (4, .slice (some ⟨bo, 0, none⟩) z.sets.len z.sets.len), (5, intV k), (6, intV i), (7, strV n)]) (fun _ => p.1) (fun _ => [.row (.slice (some ⟨bo, 0, none⟩) z.sets.len z.sets.len) 9 1 z.sets.len (encs (outsUp B i)), .blk b1 32 (enc z)]) (fun k => k0 ≤ k ∧ k ≤ Hh.length ∧ ∀ j (h : j < Hh.length), k0 ≤ j → j < k → leN Hh[j] n = true) (fun k => Hh.length - k) k0 ⟨Nat.le_refl _, hk0, fun j _ h1 h2 => by omega⟩ (by (repeat (first | exact True.intro | refine ⟨rfl, ?_⟩ | refine Sub.int rfl (by omega) ?_))) rfl (by (repeat (first | exact List.Sublist.refl _ | exact List.nil_sublist _ | apply List.Sublist.cons_cons | apply List.Sublist.cons))) ?_
      rintro k ⟨hk1, hk2, hk3⟩
      have hfin : (∀ h : k < Hh.length, leN Hh[k] n = false) → k = k1 := fun h => by rw [← hk1e]; exact (advO_eq hk1 hk2 hk3 h).symm
      by_cases hkl : k < Hh.length
      · have hkp : k < p.2.els.length := by rw [hpe]; exact hkl
        have hxe : p.2.els[k] = Hh[k] := by simp only [hpe]
        have hxc := hpg.cell (k := k) (j := 0) (by omega) (v := strV Hh[k]) (by rw [hxe]; rfl)
        have hx60 := name_len60 (hhn _ (List.getElem_mem hkl))
        repeat (any_goals (first | refine T.seq ?_ | refine T.region ?_ | refine TL.nil ?_ | refine N.next ?_ | refine N.inBlock ?_ | refine N.exit_same ?_ | refine N.exit_then ?_ | refine T.skip ?_ | refine T.exit ?_ | refine T.block ?_ | (apply T.cond_false; rfl) | (apply T.test; rfl; (exact isx); intro _; rotate_left; intro _; rotate_right) | (apply TL.skip; rfl; rfl; rfl) | (apply TL.val; rfl; rfl; (apply V.elem (j := k); (iterate 6 rfl); omega; exact hpg.at_ (by omega))) | (apply TL.val; rfl; rfl; (apply V.load_H; rfl; rfl; rfl; exact hxc)) | (apply TL.callE (f := 151) [strV Hh[k], strV n] Tryz.call151; (iterate 4 rfl); (exact fun _ hs => c_Order01 Hh[k] n _ _ hs.sat (by omega) (by omega))) | (apply TL.val; rfl; rfl; (first | exact vpure | exact vread)) | (apply TL.guard; rfl; rfl; rfl; (exact isx); intro _; rotate_left; intro _; rotate_right)))
        all_goals (try (exfalso; omega))
        · have hle : ordN Hh[k] n ≤ 0 := by assumption
          refine N.round (k + 1) ⟨by omega, by omega, fun j h h1 h2 => ?_⟩ (by show Hh.length - (k + 1) < Hh.length - k; omega) (by (repeat (first | exact True.intro | refine ⟨rfl, ?_⟩ | refine Sub.int rfl (by omega) ?_))) rfl (by (repeat (first | exact List.Sublist.refl _ | exact List.nil_sublist _ | apply List.Sublist.cons_cons | apply List.Sublist.cons)))
          by_cases e : j = k
          · subst e; exact leN_iff.2 hle
          · exact hk3 j h h1 (by omega)
        · have hle : ¬ ordN Hh[k] n ≤ 0 := by assumption
          have hk1k : k = k1 := hfin fun _ => by
            cases hc : leN Hh[k] n with
            | false => rfl
            | true => exact absurd (leN_iff.1 hc) hle
          exact N.cut () trivial (by rw [← hk1k]; (repeat (first | exact True.intro | refine ⟨rfl, ?_⟩ | refine Sub.int rfl (by omega) ?_))) rfl (by (repeat (first | exact List.Sublist.refl _ | exact List.nil_sublist _ | apply List.Sublist.cons_cons | apply List.Sublist.cons)))
      · have hk1k : k = k1 := hfin fun h => absurd h hkl
        repeat (any_goals (first | refine T.seq ?_ | refine T.region ?_ | refine TL.nil ?_ | refine N.next ?_ | refine N.exit_same ?_ | refine N.exit_then ?_ | refine T.exit ?_ | (apply T.cond_false; rfl) | (apply TL.skip; rfl; rfl; rfl) | (apply TL.val; rfl; rfl; (first | exact vpure | exact vread)) | (apply TL.guard; rfl; rfl; rfl; (exact isx); intro _; rotate_left; intro _; rotate_right)))
        all_goals (try (exfalso; omega))
        exact N.cut () trivial (by rw [← hk1k]; (repeat (first | exact True.intro | refine ⟨rfl, ?_⟩ | refine Sub.int rfl (by omega) ?_))) rfl (by (repeat (first | exact List.Sublist.refl _ | exact List.nil_sublist _ | apply List.Sublist.cons_cons | apply List.Sublist.cons)))
    · rintro _ _
      have hk1l : k1 ≤ Hh.length := hk1e ▸ advO_len hk0
      rw [hk1e] at hBi hnx
      cases k1 with
      | zero =>
        have hb0 : B[i] = [] := by rw [hBi]; rfl
        have hsame := outsUp_same hiB hb0
        repeat (any_goals (first | refine T.seq ?_ | refine T.region ?_ | refine TL.nil ?_ | refine N.next ?_ | refine N.inBlock ?_ | refine T.skip ?_ | (apply T.cond_false; rfl) | (apply TL.skip; rfl; rfl; rfl) | (apply TL.val; rfl; rfl; (first | exact vpure | exact vread))))
        all_goals (try (exfalso; omega))
        refine N.round (i + 1) (by show i + 1 ≤ _; omega) (by show z.sets.len - (i + 1) < z.sets.len - i; omega) (by simp only [hnx]; (repeat (first | exact True.intro | refine ⟨rfl, ?_⟩ | refine Sub.int rfl (by omega) ?_))) rfl ?_
        simp only [hsame]
        exact List.Sublist.refl _
      | succ k =>
        have hkl : k < Hh.length := by omega
        have hkp : k < p.2.els.length := by rw [hpe]; exact hkl
        have hxe : p.2.els[k] = Hh[k] := by simp only [hpe]
        have hxc := hpg.cell (k := k) (j := 0) (by omega) (v := strV Hh[k]) (by rw [hxe]; rfl)
        have hx60 := name_len60 (hhn _ (List.getElem_mem hkl))
        obtain ⟨iv, hiv⟩ : ∃ iv, inN n Hh[k] = iv := ⟨_, rfl⟩
        have hbe : behAt inN Hh (k + 1) n = if iv = true then some Hh[k] else none := by
          unfold behAt
          simp only [List.getElem?_eq_getElem hkl]
          rw [hiv]
        rw [hbe] at hBi
        have ho := outsUp_at hiB
        repeat (any_goals (first | refine T.seq ?_ | refine T.region ?_ | refine TL.nil ?_ | refine N.next ?_ | refine N.inBlock ?_ | refine T.skip ?_ | (apply T.cond_false; rfl) | (apply T.test; rfl; (exact isx); intro _; rotate_left; intro _; rotate_right) | (apply TL.skip; rfl; rfl; rfl) | (apply TL.val; rfl; rfl; (apply V.elem (j := k); (iterate 5 rfl); omega; omega; exact hpg.at_ (by omega))) | (apply TL.val; rfl; rfl; (apply V.load_H; rfl; rfl; rfl; exact hxc)) | (apply TL.callE (f := 121) [strV n, strV Hh[k]] Tryz.call121; (iterate 4 rfl); (exact fun _ hs => hiv ▸ c_In n Hh[k] _ _ hs.sat (by omega) (by omega))) | (apply TL.val; rfl; rfl; (apply V.elem (j := i); (iterate 6 rfl); exact hlt; rfl)) | (apply TL.x; rfl; rfl; (exact X.storeRowE 0 (vs := [strV Hh[k]]) rfl rfl rfl rfl rfl rfl rfl (by show 0 + i * 1 + 1 ≤ z.sets.len * 1; omega) (encs_put (j := 0) (y := Hh[k]) ho (by show 0 + 1 ≤ 1; omega) rfl (by show 0 + i * 1 = i * 1 + 0; omega))); intro _ _) | (apply TL.val; rfl; rfl; (first | exact vpure | exact vread)) | (apply TL.guard; rfl; rfl; rfl; (exact isx); intro _; rotate_left; intro _; rotate_right)))
        all_goals (try (exfalso; omega))
        all_goals first
          | (have ht : iv = true := by assumption
             have hb1 : B[i] = Hh[k] := by rw [hBi, if_pos ht]; rfl
             have hst := outsUp_next hiB
             rw [hb1] at hst
             refine N.round (i + 1) (by show i + 1 ≤ _; omega) (by show z.sets.len - (i + 1) < z.sets.len - i; omega) (by simp only [hnx]; (repeat (first | exact True.intro | refine ⟨rfl, ?_⟩ | refine Sub.int rfl (by omega) ?_))) rfl ?_
             simp only [hst]
             exact List.Sublist.refl _)
          | (have hf : iv = false := by assumption
             have hb1 : B[i] = [] := by rw [hBi, if_neg (by rw [hf]; decide)]; rfl
             have hst := outsUp_same hiB hb1
             refine N.round (i + 1) (by show i + 1 ≤ _; omega) (by show z.sets.len - (i + 1) < z.sets.len - i; omega) (by simp only [hnx]; (repeat (first | exact True.intro | refine ⟨rfl, ?_⟩ | refine Sub.int rfl (by omega) ?_))) rfl ?_
             simp only [hst]
             exact List.Sublist.refl _)
  · have hie : i = z.sets.len := by omega
    subst hie
    rw [outsUp_all (by omega)]
    apply T.frzRow 0 (els := B); rfl; rfl; exact hBl
    · intro x hx
      obtain ⟨j, hj, rfl⟩ := List.mem_iff_getElem.1 hx
      obtain ⟨_, e⟩ := hBa j (by omega)
      rw [e]
      unfold behAt
      split
      · show ([] : Bytes).length ≤ _; decide
      · split
        · split
          · rename_i h _ _
            have := name_len60 (hhn h (List.mem_of_getElem? (by assumption)))
            show h.length ≤ _
            omega
          · show ([] : Bytes).length ≤ _; decide
        · show ([] : Bytes).length ≤ _; decide
    intro H3 sl e1 e2 e3 hle3
    rw [← e1]
    repeat (any_goals (first | refine T.seq ?_ | refine T.region ?_ | refine TL.nil ?_ | refine N.next ?_ | refine N.exit_same ?_ | refine N.exit_then ?_ | refine T.ret ?_ | refine T.skip ?_ | refine T.exit ?_ | refine T.block ?_ | (apply T.test; rfl; (exact isx); intro _; rotate_left; intro _; rotate_right) | (apply TL.val; rfl; rfl; (first | exact vpure | exact vread))))
    all_goals (try (exfalso; omega))
    exact N.ret1 rfl (by (exact rvx)) fun w hst => ⟨(H3, sl), ⟨e2, e3⟩, rfl, hst.fresh⟩
end Go.Proofs.YthabgdbhgcgemaaGreatDoor
