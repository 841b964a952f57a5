import Derived.Test.YtepljgpikfeklaaGreatDoorQZW
import Derived.Test.YtepljgpikfeklaaGreatDoorQZV
import Derived.Test.YtepljgpikfeklaaGreatDoorQZR
namespace Go.Proofs.YtepljgpikfeklaaGreatDoor
set_option linter.unusedVariables false
set_option linter.unusedSimpArgs false
open Go Go.RowKit
set_option maxRecDepth 20000
def apexesOf (l : List CopyV) : List Bytes := l.map fun c => c.zone.apex
theorem apexesOf_at {l : List CopyV} {i : Nat} (h : i < l.length) : (apexesOf l)[i]'(by unfold apexesOf; rw [List.length_map]; exact h) = l[i].zone.apex := by
  unfold apexesOf; rw [List.getElem_map]
set_option maxHeartbeats 8000000 in
theorem c_Apexes21 (s : Slc CopyV) (hf : s.len ≤ 4000) (hn : ∀ x ∈ s.els, nameOK x.zone.apex = true) {H : Hp} {w : World} (hs : Sat H w) (hg : s.Good H) : Calls Tryz.prog 20 #[s.v] w (RetF w H (fun p : Hp × Slc Bytes => p.2.els = apexesC (apexesOf s.els) ∧ p.2.Good p.1) (fun p => p.2.v) (fun p => p.1)) := by
  have hlen := hg.len
  have hlim := hg.lim
  have hal : (apexesOf s.els).length = s.len := by unfold apexesOf; rw [List.length_map, hlen]
  have hnm : ∀ k, ∀ x ∈ apexUp (apexesOf s.els) k, nameOK x = true := fun k x hx => by
    have := apexUp_mem hx
    unfold apexesOf at this
    obtain ⟨c, hc, rfl⟩ := List.mem_map.1 this
    exact hn c hc
  refine T.enter (vs := [s.v]) (H := H) Tryz.func20 rfl rfl rfl hs ?_
  repeat (any_goals (first | refine T.seq ?_ | refine T.region ?_ | refine TL.nil ?_ | refine N.next ?_ | refine T.block ?_ | (apply TL.val; rfl; rfl; (first | exact vpure | exact vread))))
  refine T.nilRow 9 1 ?_
  refine T.loop (G := Option (Nat × Nat) × Nat) (fun g => [(0, s.v), (3, rowOf g.1 (apexUp (apexesOf s.els) g.2).length), (4, intV g.2)]) (fun _ => H) (fun g => [.row (rowOf g.1 (apexUp (apexesOf s.els) g.2).length) 9 1 (apexUp (apexesOf s.els) g.2).length (encs (apexUp (apexesOf s.els) g.2))]) (fun g => g.2 ≤ s.len ∧ (g.1 = none ↔ g.2 = 0)) (fun g => s.len - g.2) (none, 0) ⟨Nat.zero_le _, by simp⟩ (by (repeat (first | exact True.intro | refine ⟨rfl, ?_⟩ | refine Sub.int rfl (by omega) ?_))) rfl (by (repeat (first | exact List.Sublist.refl _ | exact List.nil_sublist _ | apply List.Sublist.cons_cons | apply List.Sublist.cons))) ?_
  rintro ⟨o, i⟩ ⟨hi, ho⟩
  simp only at hi ho ⊢
  by_cases hlt : i < s.len
  · have hil : i < s.els.length := by omega
    have hup := apexUp_next (l := apexesOf s.els) (k := i) (by omega)
    rw [apexesOf_at hil] at hup
    have hcl := apexUp_len (apexesOf s.els) i (by omega)
    have hcn := hnm i
    have han := hn _ (List.getElem_mem hil)
    obtain ⟨cs, hcs⟩ : ∃ cs, apexUp (apexesOf s.els) i = cs := ⟨_, rfl⟩
    obtain ⟨a, ha⟩ : ∃ a, (s.els[i]'hil).zone.apex = a := ⟨_, rfl⟩
    have hac := hg.cell (k := i) (j := 3) hlt (v := strV a) (by show some (strV (s.els[i]'hil).zone.apex) = _; rw [ha])
    rw [hcs, ha] at hup
    rw [ha] at han
    rw [hcs] at hcl hcn ⊢
    have ha60 := name_len60 han
    cases o with
    | none =>
      have hi0 := ho.1 rfl
      subst hi0
      have hcs0 : cs = [] := List.length_eq_zero_iff.1 (by omega)
      subst hcs0
      have hu : insA [] a = [a] := rfl
      rw [hu] at hup
      simp only [rowOf]
      repeat (any_goals (first | refine T.seq ?_ | refine T.region ?_ | refine TL.nil ?_ | refine N.next ?_ | refine N.exit_same ?_ | refine N.exit_then ?_ | refine T.ret ?_ | refine T.skip ?_ | refine T.exit ?_ | refine T.block ?_ | (apply T.test; rfl; (exact isx); intro _; rotate_left; intro _; rotate_right) | (apply TL.val; rfl; rfl; (apply V.elem (j := 0); (iterate 6 rfl); omega; exact hg.at_ (by omega))) | (apply TL.val; rfl; rfl; (apply V.load_H; rfl; rfl; rfl; exact hac)) | (apply TL.val; rfl; rfl; (first | exact vpure | exact vread))))
      all_goals (try (exfalso; omega))
      refine T.loop (G := Unit) (fun _ => [(0, s.v), (3, .slice none 0 0), (4, intV (0 : Nat)), (5, strV a), (6, intV 0)]) (fun _ => H) (fun _ => [.row (.slice none 0 0) 9 1 0 []]) (fun _ => True) (fun _ => 0) () trivial (by (repeat (first | exact True.intro | refine ⟨rfl, ?_⟩ | refine Sub.int rfl (by omega) ?_))) rfl (by (repeat (first | exact List.Sublist.refl _ | exact List.nil_sublist _ | apply List.Sublist.cons_cons | apply List.Sublist.cons))) ?_
      rintro ⟨⟩ _
      repeat (any_goals (first | refine T.seq ?_ | refine T.region ?_ | refine TL.nil ?_ | refine N.next ?_ | refine N.exit_same ?_ | refine N.exit_then ?_ | refine T.skip ?_ | refine T.exit ?_ | refine T.block ?_ | (apply T.cond_false; rfl) | (apply TL.skip; rfl; rfl; rfl) | (apply TL.x; rfl; rfl; (apply X.buildSlice1 (d := 49); (iterate 8 rfl)); intro b49 _) | (apply TL.x; rfl; rfl; (apply X.append1 1; (iterate 9 rfl); exact List.Mem.head _; rfl; rfl; rfl; decide; decide); intro pa _) | (apply TL.val; rfl; rfl; (first | exact vpure | exact vread))))
      all_goals (try contradiction)
      all_goals (try (exfalso; omega))
      refine T.loop (G := Unit) (fun _ => [(0, s.v), (3, .slice (some ⟨pa.1, 0, none⟩) 1 pa.2), (4, intV (0 : Nat)), (5, strV a), (6, intV 0), (7, intV 0)]) (fun _ => H) (fun _ => [.row (.slice (some ⟨pa.1, 0, none⟩) 1 pa.2) 9 1 1 [strV a]]) (fun _ => True) (fun _ => 0) () trivial (by (repeat (first | exact True.intro | refine ⟨rfl, ?_⟩ | refine Sub.int rfl (by omega) ?_))) rfl (by (repeat (first | exact List.Sublist.refl _ | exact List.nil_sublist _ | apply List.Sublist.cons_cons | apply List.Sublist.cons))) ?_
      rintro ⟨⟩ _
      repeat (any_goals (first | refine T.seq ?_ | refine T.region ?_ | refine TL.nil ?_ | refine N.next ?_ | refine N.inBlock ?_ | refine N.exit_same ?_ | refine N.exit_then ?_ | refine T.exit ?_ | (apply T.cond_false; rfl) | (apply TL.val; rfl; rfl; (apply V.elem (j := 0); (iterate 6 rfl); exact (show (0 : Nat) < 1 by decide); rfl)) | (apply TL.x; rfl; rfl; (exact X.storeRowE 0 (vs := [strV a]) (ys := [strV a]) rfl rfl rfl rfl rfl rfl rfl (by show 0 + 0 * 1 + 1 ≤ 1 * 1; omega) rfl); intro _ _) | (apply TL.val; rfl; rfl; (first | exact vpure | exact vread))))
      all_goals (try contradiction)
      all_goals (try (exfalso; omega))
      refine N.round (some pa, 1) ⟨by show 1 ≤ _; omega, by simp⟩ (by show s.len - 1 < s.len - 0; omega) (by simp only [hup, rowOf]; (repeat (first | exact True.intro | refine ⟨rfl, ?_⟩ | refine Sub.int rfl (by omega) ?_))) rfl ?_
      simp only [hup, rowOf]
      (repeat (first | exact List.Sublist.refl _ | exact List.nil_sublist _ | apply List.Sublist.cons_cons | apply List.Sublist.cons))
    | some p =>
      have hip : 0 < i := Nat.pos_of_ne_zero fun e => by have := ho.2 e; cases this
      have hcp := hcl.2 hip
      have hcl := hcl.1
      simp only [rowOf]
      have hget : ∀ j (h : j < cs.length), (encs cs)[0 + j * 1]? = some (strV cs[j]) := fun j h => by
        rw [show 0 + j * 1 = j * Enc.size Bytes + 0 by show _ = j * 1 + 0; omega]
        exact encs_get cs j 0 cs[j] _ (List.getElem?_eq_getElem h) rfl
      repeat (any_goals (first | (apply T.seqU 9; rfl) | refine T.region ?_ | refine TL.nil ?_ | refine N.next ?_ | refine N.exit_same ?_ | refine N.exit_then ?_ | refine T.ret ?_ | refine T.skip ?_ | refine T.exit ?_ | refine T.block ?_ | (apply T.test; rfl; (exact isx); intro _; rotate_left; intro _; rotate_right) | (apply TL.val; rfl; rfl; (apply V.elem (j := i); (iterate 6 rfl); omega; exact hg.at_ (by omega))) | (apply TL.val; rfl; rfl; (apply V.load_H; rfl; rfl; rfl; exact hac)) | (apply TL.val; rfl; rfl; (first | exact vpure | exact vread))))
      all_goals (try (exfalso; omega))
      refine T.cut (G := Nat) (fun k => [(0, s.v), (3, .slice (some ⟨p.1, 0, none⟩) cs.length p.2), (4, intV i), (5, strV a), (6, intV k)]) (fun _ => H) (fun _ => [.row (.slice (some ⟨p.1, 0, none⟩) cs.length p.2) 9 1 cs.length (encs cs)]) (fun k => PlaceN cs a k) ?_ ?_
      · repeat (any_goals (first | refine T.block ?_))
        refine T.loop (G := Nat) (fun k => [(0, s.v), (3, .slice (some ⟨p.1, 0, none⟩) cs.length p.2), (4, intV i), (5, strV a), (6, intV k)]) (fun _ => H) (fun _ => [.row (.slice (some ⟨p.1, 0, none⟩) cs.length p.2) 9 1 cs.length (encs cs)]) (fun k => k ≤ cs.length ∧ ∀ j (h : j < cs.length), j < k → ordN cs[j] a < 0) (fun k => cs.length - k) 0 ⟨Nat.zero_le _, fun j _ h => by omega⟩ (by (repeat (first | exact True.intro | refine ⟨rfl, ?_⟩ | refine Sub.int rfl (by omega) ?_))) rfl (by (repeat (first | exact List.Sublist.refl _ | exact List.nil_sublist _ | apply List.Sublist.cons_cons | apply List.Sublist.cons))) ?_
        rintro k ⟨hk, hlo⟩
        by_cases hkl : k < cs.length
        · have hyv := hget k hkl
          have hyn := name_len60 (hcn _ (List.getElem_mem hkl))
          obtain ⟨y, hy⟩ : ∃ y, cs[k] = y := ⟨_, rfl⟩
          rw [hy] at hyv hyn
          repeat (any_goals (first | refine T.seq ?_ | refine T.region ?_ | refine TL.nil ?_ | refine N.next ?_ | refine N.inBlock ?_ | refine N.exit_same ?_ | refine N.exit_then ?_ | refine T.skip ?_ | refine T.exit ?_ | refine T.block ?_ | (apply T.cond_false; rfl) | (apply T.test; rfl; (exact isx); intro _; rotate_left; intro _; rotate_right) | (apply TL.skip; rfl; rfl; rfl) | (apply TL.val; rfl; rfl; (apply V.elem (j := k); (iterate 6 rfl); omega; rfl)) | (apply TL.val; rfl; rfl; (apply V.load_own; rfl; rfl; rfl; exact List.Mem.head _; exact hyv)) | (apply TL.callE (f := 47) [strV y, strV a] Tryz.call47; (iterate 4 rfl); (exact fun _ hs => c_Order01 y a _ _ hs.sat (by omega) (by omega))) | (apply TL.val; rfl; rfl; (first | exact vpure | exact vread)) | (apply TL.guard; rfl; rfl; rfl; (exact isx); intro _; rotate_left; intro _; rotate_right)))
          all_goals (try (exfalso; omega))
          · have hl : ordN y a < 0 := by assumption
            refine N.round (k + 1) ⟨by omega, fun j h hj => ?_⟩ (by show cs.length - (k + 1) < cs.length - k; omega) (by (repeat (first | exact True.intro | refine ⟨rfl, ?_⟩ | refine Sub.int rfl (by omega) ?_))) rfl (by (repeat (first | exact List.Sublist.refl _ | exact List.nil_sublist _ | apply List.Sublist.cons_cons | apply List.Sublist.cons)))
            by_cases e : j = k
            · subst e; rw [hy]; exact hl
            · exact hlo j h (by omega)
          · have hl : ¬ ordN y a < 0 := by assumption
            exact N.cut k ⟨hk, hlo, fun _ => by rw [hy]; exact hl⟩ (by (repeat (first | exact True.intro | refine ⟨rfl, ?_⟩ | refine Sub.int rfl (by omega) ?_))) rfl (by (repeat (first | exact List.Sublist.refl _ | exact List.nil_sublist _ | apply List.Sublist.cons_cons | apply List.Sublist.cons)))
        · repeat (any_goals (first | refine T.seq ?_ | refine T.region ?_ | refine TL.nil ?_ | refine N.next ?_ | refine N.exit_same ?_ | refine N.exit_then ?_ | refine T.exit ?_ | (apply T.cond_false; rfl) | (apply TL.skip; rfl; rfl; rfl) | (apply TL.val; rfl; rfl; (first | exact vpure | exact vread)) | (apply TL.guard; rfl; rfl; rfl; (exact isx); intro _; rotate_left; intro _; rotate_right)))
          all_goals (try (exfalso; omega))
          exact N.cut k ⟨hk, hlo, fun h => absurd h hkl⟩ (by (repeat (first | exact True.intro | refine ⟨rfl, ?_⟩ | refine Sub.int rfl (by omega) ?_))) rfl (by (repeat (first | exact List.Sublist.refl _ | exact List.nil_sublist _ | apply List.Sublist.cons_cons | apply List.Sublist.cons)))
      · rintro k hk
        have hpe := placeN_eq hk
        have hkle := hk.le
        refine T.cut (G := Unit) (fun _ => [(0, s.v), (3, .slice (some ⟨p.1, 0, none⟩) cs.length p.2), (4, intV i), (5, strV a), (6, intV k)]) (fun _ => H) (fun _ => [.row (.slice (some ⟨p.1, 0, none⟩) cs.length p.2) 9 1 cs.length (encs cs)]) (fun _ => cs[k]? ≠ some a) ?_ ?_
        · by_cases hkl : k < cs.length
          · have hyv := hget k hkl
            have hsome := List.getElem?_eq_getElem hkl
            obtain ⟨y, hy⟩ : ∃ y, cs[k] = y := ⟨_, rfl⟩
            rw [hy] at hyv hsome
            repeat (any_goals (first | refine T.seq ?_ | refine T.region ?_ | refine TL.nil ?_ | refine N.next ?_ | refine N.exit_same ?_ | refine N.exit_then ?_ | refine T.skip ?_ | refine T.exit ?_ | (apply T.cond_false; rfl) | (apply T.test; rfl; (exact isx); intro _; rotate_left; intro _; rotate_right) | (apply TL.skip; rfl; rfl; rfl) | (apply TL.val; rfl; rfl; (apply V.elem (j := k); (iterate 6 rfl); omega; rfl)) | (apply TL.val; rfl; rfl; (apply V.load_own; rfl; rfl; rfl; exact List.Mem.head _; exact hyv)) | (apply TL.val; rfl; rfl; (first | exact vpure | exact vread)) | (apply TL.guard; rfl; rfl; rfl; (exact isx); intro _; rotate_left; intro _; rotate_right)))
            all_goals (try (exfalso; omega))
            all_goals first
              | (have hne : ¬ y = a := by assumption
                 exact N.cut () (by rw [hsome]; exact fun e => hne (Option.some.inj e)) (by (repeat (first | exact True.intro | refine ⟨rfl, ?_⟩ | refine Sub.int rfl (by omega) ?_))) rfl (by (repeat (first | exact List.Sublist.refl _ | exact List.nil_sublist _ | apply List.Sublist.cons_cons | apply List.Sublist.cons))))
              | (have he : y = a := by assumption
                 have hu : insA cs a = cs := by unfold insA; rw [hpe]; exact if_pos (by rw [hsome, he])
                 rw [hu] at hup
                 refine N.round (some p, i + 1) ⟨by show i + 1 ≤ _; omega, by simp⟩ (by show s.len - (i + 1) < s.len - i; omega) (by simp only [hup, rowOf]; (repeat (first | exact True.intro | refine ⟨rfl, ?_⟩ | refine Sub.int rfl (by omega) ?_))) rfl ?_
                 simp only [hup, rowOf]
                 (repeat (first | exact List.Sublist.refl _ | exact List.nil_sublist _ | apply List.Sublist.cons_cons | apply List.Sublist.cons)))
          · repeat (any_goals (first | refine T.seq ?_ | refine T.region ?_ | refine TL.nil ?_ | refine N.next ?_ | refine T.skip ?_ | (apply T.cond_false; rfl) | (apply TL.skip; rfl; rfl; rfl) | (apply TL.val; rfl; rfl; (first | exact vpure | exact vread)) | (apply TL.guard; rfl; rfl; rfl; (exact isx); intro _; rotate_left; intro _; rotate_right)))
            all_goals (try (exfalso; omega))
            exact N.cut () (by rw [List.getElem?_eq_none (by omega)]; simp) (by (repeat (first | exact True.intro | refine ⟨rfl, ?_⟩ | refine Sub.int rfl (by omega) ?_))) rfl (by (repeat (first | exact List.Sublist.refl _ | exact List.nil_sublist _ | apply List.Sublist.cons_cons | apply List.Sublist.cons)))
        · rintro _ hq
          · have hu : insA cs a = cs.take k ++ a :: cs.drop k := by unfold insA; rw [hpe]; exact if_neg hq
            rw [hu] at hup
            have hul : (cs.take k ++ a :: cs.drop k).length = cs.length + 1 := by rw [List.length_append, List.length_cons, List.length_take, List.length_drop]; omega
            repeat (any_goals (first | refine T.seq ?_ | refine T.region ?_ | refine TL.nil ?_ | refine N.next ?_ | refine T.block ?_ | (apply TL.x; rfl; rfl; (apply X.buildSlice1 (d := 49); (iterate 8 rfl)); intro b49 _) | (apply TL.x; rfl; rfl; (apply X.append1 1; (iterate 9 rfl); exact List.Mem.head _; rfl; rfl; rfl; (refine Nat.le_trans (Nat.mul_le_mul_right _ (show _ ≤ 20001 by omega)) ?_; decide); omega); intro pa _) | (apply TL.val; rfl; rfl; (first | exact vpure | exact vread))))
            have h0 : encs cs ++ [strV a] = encs (shiftL cs a cs.length) := by rw [shift_all]; exact (encs_snoc cs a).symm
            refine T.loop (G := Nat) (fun m => [(0, s.v), (3, .slice (some ⟨pa.1, 0, none⟩) (cs.length + 1) pa.2), (4, intV i), (5, strV a), (6, intV k), (7, intV m)]) (fun _ => H) (fun m => [.row (.slice (some ⟨pa.1, 0, none⟩) (cs.length + 1) pa.2) 9 1 (cs.length + 1) (encs (shiftL cs a m))]) (fun m => k ≤ m ∧ m ≤ cs.length) (fun m => m - k) cs.length ⟨hkle, Nat.le_refl _⟩ (by (repeat (first | exact True.intro | refine ⟨rfl, ?_⟩ | refine Sub.int rfl (by omega) ?_))) rfl (by rw [← h0]; (repeat (first | exact List.Sublist.refl _ | exact List.nil_sublist _ | apply List.Sublist.cons_cons | apply List.Sublist.cons))) ?_
            rintro m ⟨hm1, hm2⟩
            by_cases hkm : k < m
            · have hg1 := shift_get (a := a) (m := m) (by omega) hm2
              have hst := shift_step (a := a) (m := m) (by omega) hm2
              obtain ⟨u, hu'⟩ : ∃ u, cs[m - 1]'(by omega) = u := ⟨_, rfl⟩
              rw [hu'] at hg1 hst
              have hrd : (encs (shiftL cs a m))[0 + (m - 1) * 1]? = some (strV u) := by
                rw [show 0 + (m - 1) * 1 = (m - 1) * Enc.size Bytes + 0 by show _ = (m - 1) * 1 + 0; omega]
                exact encs_get _ (m - 1) 0 u _ hg1 rfl
              have hlm : m < (shiftL cs a m).length := by rw [shift_len hm2]; omega
              repeat (any_goals (first | refine T.seq ?_ | refine T.region ?_ | refine TL.nil ?_ | refine N.next ?_ | refine N.inBlock ?_ | refine N.exit_same ?_ | refine N.exit_then ?_ | refine T.skip ?_ | refine T.exit ?_ | refine T.block ?_ | (apply T.test; rfl; (exact isx); intro _; rotate_left; intro _; rotate_right) | (apply TL.val; rfl; rfl; (apply V.elem (j := m - 1); (iterate 5 rfl); omega; omega; rfl)) | (apply TL.val; rfl; rfl; (apply V.load_own; rfl; rfl; rfl; exact List.Mem.head _; exact hrd)) | (apply TL.val; rfl; rfl; (apply V.elem (j := m); (iterate 6 rfl); omega; rfl)) | (apply TL.x; rfl; rfl; (exact X.storeRowE 0 (vs := [strV u]) (ys := encs (shiftL cs a (m - 1))) rfl rfl rfl rfl rfl rfl rfl (by show 0 + m * 1 + 1 ≤ (cs.length + 1) * 1; omega) (by rw [← hst]; exact encs_put (j := 0) (y := u) (List.getElem?_eq_getElem hlm) (by show 0 + 1 ≤ 1; omega) rfl (by show 0 + m * 1 = m * 1 + 0; omega))); intro _ _) | (apply TL.val; rfl; rfl; (first | exact vpure | exact vread))))
              all_goals (try (exfalso; omega))
              refine N.round (m - 1) ⟨by omega, by omega⟩ (by show (m - 1) - k < m - k; omega) (by (repeat (first | exact True.intro | refine ⟨rfl, ?_⟩ | refine Sub.int rfl (by omega) ?_))) rfl (by (repeat (first | exact List.Sublist.refl _ | exact List.nil_sublist _ | apply List.Sublist.cons_cons | apply List.Sublist.cons)))
            · have hme : m = k := by omega
              subst hme
              have hend := shift_end (a := a) hkle
              have hlm : m < (shiftL cs a m).length := by rw [shift_len hm2]; omega
              repeat (any_goals (first | refine T.seq ?_ | refine T.region ?_ | refine TL.nil ?_ | refine N.next ?_ | refine N.inBlock ?_ | refine N.exit_same ?_ | refine N.exit_then ?_ | refine T.skip ?_ | refine T.exit ?_ | refine T.block ?_ | (apply T.test; rfl; (exact isx); intro _; rotate_left; intro _; rotate_right) | (apply TL.val; rfl; rfl; (apply V.elem (j := m); (iterate 6 rfl); omega; rfl)) | (apply TL.x; rfl; rfl; (exact X.storeRowE 0 (vs := [strV a]) (ys := encs (cs.take m ++ a :: cs.drop m)) rfl rfl rfl rfl rfl rfl rfl (by show 0 + m * 1 + 1 ≤ (cs.length + 1) * 1; omega) (by rw [← hend]; exact encs_put (j := 0) (y := a) (List.getElem?_eq_getElem hlm) (by show 0 + 1 ≤ 1; omega) rfl (by show 0 + m * 1 = m * 1 + 0; omega))); intro _ _) | (apply TL.val; rfl; rfl; (first | exact vpure | exact vread))))
              all_goals (try (exfalso; omega))
              refine N.round (some pa, i + 1) ⟨by show i + 1 ≤ _; omega, by simp⟩ (by show s.len - (i + 1) < s.len - i; omega) (by simp only [hup, hul, rowOf]; (repeat (first | exact True.intro | refine ⟨rfl, ?_⟩ | refine Sub.int rfl (by omega) ?_))) rfl ?_
              simp only [hup, hul, rowOf]
              (repeat (first | exact List.Sublist.refl _ | exact List.nil_sublist _ | apply List.Sublist.cons_cons | apply List.Sublist.cons))
  · have hie : i = s.len := by omega
    subst hie
    have he : apexUp (apexesOf s.els) s.len = apexesC (apexesOf s.els) := by unfold apexUp apexesC; rw [List.take_of_length_le (by omega)]
    have hgo : ∀ x ∈ apexesC (apexesOf s.els), Enc.good H x := fun x hx => by
      have := name_len60 (hnm s.len x (he ▸ hx))
      show x.length ≤ 9223372036854775807; omega
    rw [he]
    apply T.frzRow 0 (els := apexesC (apexesOf s.els)); rfl; rfl; rfl
    · exact hgo
    intro H3 sl e1 e2 e3 hle3
    rw [← e1]
    repeat (any_goals (first | refine T.seq ?_ | refine T.region ?_ | refine TL.nil ?_ | refine N.next ?_ | refine N.exit_same ?_ | refine N.exit_then ?_ | refine T.ret ?_ | refine T.skip ?_ | refine T.exit ?_ | refine T.block ?_ | (apply T.test; rfl; (exact isx); intro _; rotate_left; intro _; rotate_right) | (apply TL.val; rfl; rfl; (first | exact vpure | exact vread))))
    all_goals (try (exfalso; omega))
    exact N.ret1 rfl (by (exact rvx)) fun w hst => ⟨(H3, sl), ⟨e2, e3⟩, rfl, hst.fresh⟩
end Go.Proofs.YtepljgpikfeklaaGreatDoor
