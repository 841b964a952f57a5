import Derived.Test.YthabgdbhgcgemaaGreatDoorQBU
import Derived.Test.YthabgdbhgcgemaaGreatDoorQWM
namespace Go.Proofs.YthabgdbhgcgemaaGreatDoor
set_option linter.unusedVariables false
set_option linter.unusedSimpArgs false
open Go Go.RowKit
open Enc (enc)
set_option maxRecDepth 20000
def serL (zs : List Int) (k : Nat) : List Int := (List.range zs.length).map fun j => if j < k then zs.getD j 0 else 0
theorem serL_len (zs : List Int) (k : Nat) : (serL zs k).length = zs.length := by unfold serL; simp
theorem serL_get {zs : List Int} {k j : Nat} (hj : j < zs.length) : (serL zs k)[j]? = some (if j < k then zs[j] else 0) := by
  unfold serL
  rw [List.getElem?_map, List.getElem?_range hj]
  have : zs.getD j 0 = zs[j] := by simp [hj]
  show some (if j < k then zs.getD j 0 else 0) = _
  rw [this]
theorem serL_zero (zs : List Int) : serL zs 0 = List.replicate zs.length 0 := by
  unfold serL
  apply List.ext_getElem
  · simp
  · intro j h1 h2; simp
theorem serL_step {zs : List Int} {k : Nat} (hk : k < zs.length) : (serL zs k).set k zs[k] = serL zs (k + 1) := by
  apply List.ext_getElem?
  intro j
  rw [List.getElem?_set]
  by_cases hj : j < zs.length
  · rw [serL_get hj, serL_get hj, serL_len]
    by_cases e : k = j
    · subst e
      rw [if_pos rfl, if_pos hk, if_pos (by omega)]
    · rw [if_neg e]
      by_cases h : j < k
      · rw [if_pos h, if_pos (by omega)]
      · rw [if_neg h, if_neg (by omega)]
  · rw [if_neg (by omega), List.getElem?_eq_none (by rw [serL_len]; omega), List.getElem?_eq_none (by rw [serL_len]; omega)]
theorem serL_cell {zs : List Int} {k j : Nat} (hj : j < k) (hk : k ≤ zs.length) : (encs (serL zs k))[0 + j * 1]? = some (intV (zs[j]'(by omega))) := by
  have := serL_get (k := k) (show j < zs.length by omega)
  rw [if_pos hj] at this
  rw [show 0 + j * 1 = j * Enc.size Int + 0 by show _ = j * 1 + 0; omega]
  exact encs_get (serL zs k) j 0 _ _ this rfl
def serVs (l : List VersionV) : List Int := l.map fun v => serialC v.zone.c
section
variable {H : Hp} {w : World}
set_option maxHeartbeats 16000000 in
theorem c_right (l : Slc VersionV) (fin : Int) (hv : VersOK l.els fin) (hs : Sat H w) (hR : Rules H) (hg : l.Good H) : Calls Tryz.prog 18 #[l.v, intV fin] w (Ret w (.bool true)) := by
  have hlen := hg.len
  have hlim := hg.lim
  have hn1 := hv.n1
  have hn8 := hv.n8
  obtain ⟨zs, hzs⟩ : ∃ zs, serVs l.els = zs := ⟨_, rfl⟩
  have hzl : zs.length = l.len := by rw [← hzs, serVs, List.length_map, hlen]
  have hzi : ∀ i (hi : i < l.els.length), zs[i]'(by omega) = serialC l.els[i].zone.c := fun i hi => by
    simp only [← hzs, serVs, List.getElem_map]
  have hzn : zs.Nodup := by rw [← hzs]; exact hv.apart
  refine T.enter (vs := [l.v, intV fin]) (H := H) Tryz.func18 rfl rfl rfl hs ?_
  repeat (any_goals (first | refine T.seq ?_ | refine T.region ?_ | refine TL.nil ?_ | refine N.next ?_ | refine N.ret_then ?_ | refine T.ret ?_ | refine T.skip ?_ | refine T.block ?_ | (apply T.cond_true; rfl) | (apply T.test; rfl; (exact isx); intro _; rotate_left; intro _; rotate_right) | (apply TL.skip; rfl; rfl; rfl) | (apply TL.x; rfl; rfl; (apply X.makeSlice (0 : Int) l.len (d := 21); (iterate 10 rfl); (refine Nat.le_trans (Nat.mul_le_mul_left _ (show _ ≤ 8 by omega)) ?_; decide); omega); intro b5 _) | (apply TL.val; rfl; rfl; (first | exact vpure | exact vread)) | (apply TL.guard; rfl; rfl; rfl; (exact isx); intro _; rotate_left; intro _; rotate_right)))
  all_goals (try contradiction)
  all_goals (try (exfalso; omega))
  rw [← hzl, ← serL_zero zs]
  refine T.loop (G := Nat) (fun k => [(0, l.v), (1, intV fin), (5, .slice (some ⟨b5, 0, none⟩) zs.length zs.length), (22, l.v), (23, intV l.len), (24, intV k)]) (fun _ => H) (fun k => [.row (.slice (some ⟨b5, 0, none⟩) zs.length zs.length) 3 1 zs.length (encs (serL zs k))]) (fun k => k ≤ l.len) (fun k => l.len - k) 0 (Nat.zero_le _) (by rw [← hzl]; (repeat (first | exact True.intro | refine ⟨rfl, ?_⟩ | refine Sub.int rfl (by omega) ?_))) rfl (by exact List.Sublist.refl _) ?_
  intro k hk
  by_cases hlt : k < l.len
  · have hkl : k < l.els.length := by omega
    have hkz : k < zs.length := by omega
    have hrow := hg.row (k := k) hlt
    have hxg := hg.els _ (List.getElem_mem hkl)
    have hx0 := hv.at0 _ (List.getElem_mem hkl)
    have hxz := hv.zone _ (List.getElem_mem hkl)
    have hxa := hv.apex _ (List.getElem_mem hkl) _ (List.getElem_mem (show 0 < l.els.length by omega))
    have hxs := hzi k hkl
    have hstep := serL_step hkz
    have h0 : H.cell l.b (l.o + 0 * 3 + 1) = some (strV (l.els[0]'(by omega)).zone.apex) := hg.cell (k := 0) (j := 1) (by omega) rfl
    rw [← hxa] at h0
    have hst := fun h : 0 < k => hv.step (k - 1) (by omega)
    obtain ⟨x, hx⟩ : ∃ x, l.els[k]'hkl = x := ⟨_, rfl⟩
    rw [hx] at hxg hx0 hxz h0 hxs
    try rw [hx] at hrow
    obtain ⟨m, hm⟩ : ∃ m, zs[k]'hkz = m := ⟨_, rfl⟩
    rw [hm] at hxs hstep
    have hmr := hxz.serial
    rw [← hxs] at hmr
    have cm : ∀ hk' : k + 1 ≤ zs.length, (encs (serL zs (k + 1)))[0 + k * 1]? = some (intV m) := fun hk' => by rw [← hm]; exact serL_cell (by omega) hk'
    have cm := cm hkz
    have hsl := serL_len zs k
    have hsg : (serL zs k)[k]? = some 0 := by rw [serL_get hkz, if_neg (Nat.lt_irrefl _)]
    cases k with
    | zero =>
      repeat (any_goals (first | refine T.seq ?_ | refine T.region ?_ | (apply T.regionD wide; rfl) | refine TL.nil ?_ | refine N.next ?_ | refine N.exit_same ?_ | refine N.exit_then ?_ | refine N.ret_then ?_ | refine N.ret_block ?_ | refine T.ret ?_ | refine T.skip ?_ | refine T.exit ?_ | refine T.block ?_ | (apply T.cond_true; rfl) | (apply T.test; rfl; (exact isx); intro _; rotate_left; intro _; rotate_right) | (apply GT.skip; rfl; rfl; rfl; decide +kernel) | (apply TL.val; rfl; rfl; (apply V.elem (j := 0); (iterate 6 rfl); omega; first | rfl | exact hg.at_ (by omega))) | (apply GT.pure; (iterate 4 rfl); (apply V.elem (j := 0); (iterate 6 rfl); omega; first | rfl | exact hg.at_ (by omega)); decide +kernel) | (apply TL.val; rfl; rfl; (apply V.load_H_row; rfl; rfl; rfl; exact hrow; rfl)) | (apply TL.x; rfl; rfl; (apply X.alloc (d := 7); rfl; rfl; rfl); intro b7 _) | (apply TL.x; rfl; rfl; (apply X.storeTo 0 (enc x); (iterate 10 rfl)); intro _ _) | (apply GT.callE (f := 33) [.agg (enc x.zone).toArray] Tryz.call33; (iterate 6 rfl); (exact fun _ hs => c_zoneValid x.zone hxz hs.sat hR hxg.2); decide +kernel) | (apply GT.read; (iterate 4 rfl); (apply V.load_H; rfl; rfl; rfl; exact h0); decide +kernel) | (apply TL.callE (f := 26) [.agg (enc x.zone).toArray] Tryz.call26; (iterate 4 rfl); (exact fun _ hs => c_zoneSerial x.zone hxz hxs.symm hs.sat hR hxg.2)) | (apply TL.x; rfl; rfl; (exact X.storeRowE 1 (vs := [intV m]) (ys := encs (serL zs (0 + 1))) rfl rfl rfl rfl rfl rfl rfl (by show 0 + 0 * 1 + 1 ≤ zs.length * 1; omega) ((encs_put (j := 0) (y := m) hsg (by show 0 + 1 ≤ 1; omega) rfl (by show 0 + 0 * 1 = 0 * 1 + 0; omega)).trans (congrArg encs hstep))); intro _ _) | (apply TL.val; rfl; rfl; (first | exact vpure | exact vread)) | (apply GT.pure; (iterate 4 rfl); (first | exact vpure); decide +kernel) | (apply GT.read; (iterate 4 rfl); (first | exact vpure | exact vread); decide +kernel) | (apply GT.done; decide +kernel; apply N.ofQ) | (apply GT.guard; (iterate 4 rfl); (exact isx); intro _; rotate_left; intro _; rotate_right)))
      all_goals (try contradiction)
      all_goals (try (exfalso; omega))
      refine N.round 1 (by omega) (by show l.len - 1 < l.len - 0; omega) (by (repeat (first | exact True.intro | refine ⟨rfl, ?_⟩ | refine Sub.int rfl (by omega) ?_))) rfl ?_
      simp only [List.set_cons_zero, List.set_cons_succ]
      exact List.sublist_cons_self _ _
    | succ k =>
      have hkl0 : k < l.els.length := by omega
      have hkz0 : k < zs.length := by omega
      have hst := hst (Nat.succ_pos k)
      simp only [Nat.add_sub_cancel] at hst
      obtain ⟨st1, st2⟩ := hst
      have hys := hzi k hkl0
      have hyz := (hv.zone _ (List.getElem_mem hkl0)).serial
      have hy0 := hv.at0 _ (List.getElem_mem hkl0)
      have cy : H.cell l.b (l.o + k * 3 + 0) = some (intV (l.els[k]'hkl0).at_) := hg.cell (k := k) (j := 0) (by omega) rfl
      rw [← hys] at st2 hyz
      obtain ⟨y, hy⟩ : ∃ y, l.els[k]'hkl0 = y := ⟨_, rfl⟩
      rw [hy] at st1 hy0 cy
      rw [hx] at st1 st2
      rw [← hxs] at st2
      obtain ⟨n, hn⟩ : ∃ n, zs[k]'hkz0 = n := ⟨_, rfl⟩
      rw [hn] at st2 hyz
      have cp : (encs (serL zs (k + 1 + 1)))[0 + k * 1]? = some (intV n) := by rw [← hn]; exact serL_cell (by omega) hkz
      repeat (any_goals (first | refine T.seq ?_ | refine T.region ?_ | (apply T.regionD wide; rfl) | refine TL.nil ?_ | refine N.next ?_ | refine N.exit_same ?_ | refine N.exit_then ?_ | refine N.ret_then ?_ | refine N.ret_block ?_ | refine T.ret ?_ | refine T.skip ?_ | refine T.exit ?_ | refine T.block ?_ | (apply T.cond_true; rfl) | (apply T.cond_false; rfl) | (apply T.test; rfl; (exact isx); intro _; rotate_left; intro _; rotate_right) | (apply GT.skip; rfl; rfl; rfl; decide +kernel) | (apply TL.val; rfl; rfl; (apply V.elem (j := k + 1); (iterate 6 rfl); omega; first | rfl | exact hg.at_ (by omega))) | (apply GT.pure; (iterate 4 rfl); (apply V.elem (j := k + 1); (iterate 6 rfl); omega; first | rfl | exact hg.at_ (by omega)); decide +kernel) | (apply GT.pure; (iterate 4 rfl); (apply V.elem (j := 0); (iterate 6 rfl); omega; exact hg.at_ (by omega)); decide +kernel) | (apply GT.pure; (iterate 4 rfl); (apply V.elem (j := k); (iterate 5 rfl); omega; omega; first | rfl | exact hg.at_ (by omega)); decide +kernel) | (apply TL.val; rfl; rfl; (apply V.load_H_row; rfl; rfl; rfl; exact hrow; rfl)) | (apply TL.x; rfl; rfl; (apply X.alloc (d := 7); rfl; rfl; rfl); intro b7 _) | (apply TL.x; rfl; rfl; (apply X.storeTo 0 (enc x); (iterate 10 rfl)); intro _ _) | (apply GT.callE (f := 33) [.agg (enc x.zone).toArray] Tryz.call33; (iterate 6 rfl); (exact fun _ hs => c_zoneValid x.zone hxz hs.sat hR hxg.2); decide +kernel) | (apply GT.read; (iterate 4 rfl); (apply V.load_H; rfl; rfl; rfl; first | exact h0 | exact cy); decide +kernel) | (apply TL.callE (f := 26) [.agg (enc x.zone).toArray] Tryz.call26; (iterate 4 rfl); (exact fun _ hs => c_zoneSerial x.zone hxz hxs.symm hs.sat hR hxg.2)) | (apply TL.x; rfl; rfl; (exact X.storeRowE 1 (vs := [intV m]) (ys := encs (serL zs (k + 1 + 1))) rfl rfl rfl rfl rfl rfl rfl (by show 0 + (k + 1) * 1 + 1 ≤ zs.length * 1; omega) ((encs_put (j := 0) (y := m) hsg (by show 0 + 1 ≤ 1; omega) rfl (by show 0 + (k + 1) * 1 = (k + 1) * 1 + 0; omega)).trans (congrArg encs hstep))); intro _ _) | (apply GT.read; (iterate 4 rfl); (apply V.load_own; rfl; rfl; rfl; exact List.Mem.tail _ (List.Mem.head _); first | exact cp | exact cm); decide +kernel) | (apply GT.callE (f := 34) [intV n, intV m] Tryz.call34; (iterate 6 rfl); (exact fun _ hs => c_dLess n m hyz hmr st2 hs.sat); decide +kernel) | (apply TL.val; rfl; rfl; (first | exact vpure | exact vread)) | (apply GT.pure; (iterate 4 rfl); (first | exact vpure); decide +kernel) | (apply GT.read; (iterate 4 rfl); (first | exact vpure | exact vread); decide +kernel) | (apply GT.done; decide +kernel; apply N.ofQ) | (apply GT.guard; (iterate 4 rfl); (exact isx); intro _; rotate_left; intro _; rotate_right)))
      all_goals (try contradiction)
      all_goals (try (exfalso; omega))
      simp only [List.set_cons_zero, List.set_cons_succ]
      refine T.loop (G := Nat) (fun j => [(0, l.v), (1, intV fin), (5, .slice (some ⟨b5, 0, none⟩) zs.length zs.length), (22, l.v), (23, intV l.len), (24, intV (k + 1 : Nat)), (6, intV (k + 1 : Nat)), (7, .pointer (some ⟨b7, 0, none⟩)), (92, intV (k + 1 : Nat)), (93, intV j)]) (fun _ => H) (fun _ => [.blk b7 41 (enc x), .row (.slice (some ⟨b5, 0, none⟩) zs.length zs.length) 3 1 zs.length (encs (serL zs (k + 1 + 1)))]) (fun j => j ≤ k + 1) (fun j => k + 1 - j) 0 (Nat.zero_le _) (by (repeat (first | exact True.intro | refine ⟨rfl, ?_⟩ | refine Sub.int rfl (by omega) ?_))) rfl (by (repeat (first | exact List.Sublist.refl _ | exact List.nil_sublist _ | apply List.Sublist.cons_cons | apply List.Sublist.cons))) ?_
      intro j hj
      by_cases hjk : j < k + 1
      · have hjz : j < zs.length := by omega
        obtain ⟨q, hq⟩ : ∃ q, zs[j]'hjz = q := ⟨_, rfl⟩
        have cq : (encs (serL zs (k + 1 + 1)))[0 + j * 1]? = some (intV q) := by rw [← hq]; exact serL_cell (by omega) hkz
        have hne : q ≠ m := fun e => by
          have := List.pairwise_iff_getElem.1 hzn j (k + 1) hjz hkz (by omega)
          rw [hq, hm] at this
          exact this e
        repeat (any_goals (first | refine T.seq ?_ | refine T.region ?_ | (apply T.regionD wide; rfl) | refine TL.nil ?_ | refine N.next ?_ | refine N.inBlock ?_ | refine N.exit_same ?_ | refine N.exit_then ?_ | refine T.skip ?_ | refine T.exit ?_ | refine T.block ?_ | (apply T.cond_false; rfl) | (apply T.test; rfl; (exact isx); intro _; rotate_left; intro _; rotate_right) | (apply GT.skip; rfl; rfl; rfl; decide +kernel) | (apply GT.pure; (iterate 4 rfl); (apply V.elem (j := j); (iterate 6 rfl); omega; first | rfl | exact hg.at_ (by omega)); decide +kernel) | (apply GT.pure; (iterate 4 rfl); (apply V.elem (j := k + 1); (iterate 6 rfl); omega; first | rfl | exact hg.at_ (by omega)); decide +kernel) | (apply GT.read; (iterate 4 rfl); (apply V.load_own; rfl; rfl; rfl; exact List.Mem.tail _ (List.Mem.head _); first | exact cq | exact cm); decide +kernel) | (apply GT.pure; (iterate 4 rfl); (apply V.eqlF hne; rfl; rfl); decide +kernel) | (apply TL.val; rfl; rfl; (first | exact vpure | exact vread)) | (apply GT.pure; (iterate 4 rfl); (first | exact vpure); decide +kernel) | (apply GT.done; decide +kernel; apply N.ofQ)))
        all_goals (try contradiction)
        all_goals (try (exfalso; omega))
        all_goals first
          | exact N.round (j + 1) (by omega) (by show k + 1 - (j + 1) < k + 1 - j; omega) (by (repeat (first | exact True.intro | refine ⟨rfl, ?_⟩ | refine Sub.int rfl (by omega) ?_))) rfl (by (repeat (first | exact List.Sublist.refl _ | exact List.nil_sublist _ | apply List.Sublist.cons_cons | apply List.Sublist.cons)))
          | trace_state
      · repeat (any_goals (first | refine T.seq ?_ | refine T.region ?_ | (apply T.regionD wide; rfl) | refine TL.nil ?_ | refine N.next ?_ | refine N.inBlock ?_ | refine N.exit_same ?_ | refine N.exit_then ?_ | refine T.skip ?_ | refine T.exit ?_ | refine T.block ?_ | (apply T.test; rfl; (exact isx); intro _; rotate_left; intro _; rotate_right) | (apply TL.val; rfl; rfl; (first | exact vpure | exact vread)) | (apply GT.pure; (iterate 4 rfl); (first | exact vpure); decide +kernel)))
        all_goals (try contradiction)
        all_goals (try (exfalso; omega))
        refine N.round (k + 1 + 1) (by omega) (by show l.len - (k + 1 + 1) < l.len - (k + 1); omega) (by (repeat (first | exact True.intro | refine ⟨rfl, ?_⟩ | refine Sub.int rfl (by omega) ?_))) rfl (List.sublist_cons_self _ _)
  · repeat (any_goals (first | refine T.seq ?_ | refine T.region ?_ | (apply T.regionD wide; rfl) | refine TL.nil ?_ | refine N.next ?_ | refine N.exit_same ?_ | refine N.exit_then ?_ | refine N.ret_then ?_ | refine N.ret_block ?_ | refine T.ret ?_ | refine T.skip ?_ | refine T.exit ?_ | refine T.block ?_ | (apply T.cond_true; rfl) | (apply T.test; rfl; (exact isx); intro _; rotate_left; intro _; rotate_right) | (apply GT.skip; rfl; rfl; rfl; decide +kernel) | (apply TL.val; rfl; rfl; (first | exact vpure | exact vread)) | (apply GT.pure; (iterate 4 rfl); (first | exact vpure); decide +kernel) | (apply GT.read; (iterate 4 rfl); (first | exact vpure | exact vread); decide +kernel) | (apply GT.done; decide +kernel; apply N.ofQ) | (apply TL.x; rfl; rfl; (first | exact xgrow | exact xput); intro _ _) | (apply GT.guard; (iterate 4 rfl); (exact isx); intro _; rotate_left; intro _; rotate_right) | (apply GT.fork1; decide +kernel)))
    all_goals (try contradiction)
    all_goals (try (exfalso; omega))
    exact N.ret_bool rfl (by (exact rvx)) rfl
end
end Go.Proofs.YthabgdbhgcgemaaGreatDoor
