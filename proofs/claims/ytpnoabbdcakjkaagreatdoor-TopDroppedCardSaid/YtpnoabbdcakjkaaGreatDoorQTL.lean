/- Walks: the way from a zone to the root. -/
import Derived.Test.YtpnoabbdcakjkaaGreatDoorQTJ
import Derived.Scope
namespace Go.Proofs.YtpnoabbdcakjkaaGreatDoor
set_option linter.unusedVariables false
set_option linter.unusedSimpArgs false
open Go Go.RowKit
open Enc (enc)
set_option maxRecDepth 20000

def meas (n : Bytes) : Nat := if n = [46] then 0 else n.length
theorem meas_le {n : Bytes} (h : nameOK n = true) : meas n ≤ 60 := by
  unfold meas
  by_cases h1 : n = [46]
  · rw [if_pos h1]; omega
  · rw [if_neg h1]; exact nameOK_le h
theorem meas_up {n z : Bytes} (hn : nameOK n = true) (hz : nameOK z = true) (hin : inN n z = true) (hne : n ≠ z) (hroot : n ≠ [46]) : meas z < meas n := by
  unfold meas
  rw [if_neg hroot]
  by_cases h1 : z = [46]
  · rw [if_pos h1]
    have : n ≠ [] := by
      rintro rfl
      revert hn; decide
    exact List.length_pos_iff.2 this
  · rw [if_neg h1]
    rw [← under_in hz] at hin
    unfold underB at hin
    rw [decide_eq_false hne, decide_eq_false h1] at hin
    simp only [Bool.false_or, Bool.and_eq_true, decide_eq_true_eq] at hin
    exact hin.1.1
theorem wayC_root (K : List SignedC) (k : Nat) (l : List Bytes) : wayC K (k + 1) [46] l = (l, qNil, 0) := by unfold wayC; simp
theorem wayC_none {K : List SignedC} {k : Nat} {n : Bytes} {l : List Bytes} (hr : n ≠ [46]) (h : findC K n 6 = none) : wayC K (k + 1) n l = ([], ⟨n, 6⟩, 4) := by
  unfold wayC; rw [if_neg hr, h]
theorem wayC_nosig {K : List SignedC} {k : Nat} {n : Bytes} {l : List Bytes} {a : SignedC} (hr : n ≠ [46]) (h : findC K n 6 = some a) (hs : a.sigs = []) : wayC K (k + 1) n l = ([], qNil, 31) := by
  unfold wayC; rw [if_neg hr, h]; simp only [hs]
theorem wayC_sig {K : List SignedC} {k : Nat} {n : Bytes} {l : List Bytes} {a : SignedC} {g : Sig} {r : List Sig} (hr : n ≠ [46]) (h : findC K n 6 = some a) (hs : a.sigs = g :: r) : wayC K (k + 1) n l = if !(nameOK n && nameOK g.zone && inN n g.zone) || decide (n = g.zone) then ([], qNil, 31) else wayC K k g.zone (l ++ [g.zone]) := by
  conv => lhs; unfold wayC
  rw [if_neg hr, h]; simp only [hs]
theorem underC_val1 {n z : Bytes} (hn : nameOK n = true) : (underC n z).1 = (nameOK n && nameOK z && inN n z) := by
  unfold underC
  cases hz : nameOK z with
  | false => simp [hn]
  | true => rw [if_pos ⟨hn, rfl⟩, under_in hz, hn]; rfl
set_option maxHeartbeats 4000000 in
theorem c_way (f : Finder) (zone : Bytes) (H : Hp) (w : World) (hs : Sat H w) (hg : Enc.good H f) (hz : nameOK zone = true) : Calls Tryz.prog 135 #[.agg (enc f).toArray, strV zone] w
    (RetF w H (fun p : Hp × Slc Bytes × Question × Int => wayC (f.known.els.map Signed.c) 100 zone [zone] = (p.2.1.els, p.2.2.1, p.2.2.2) ∧ p.2.1.Good p.1 ∧ Enc.good p.1 p.2.2.1) (fun p => .tuple #[p.2.1.v, .agg (enc p.2.2.1).toArray, intV p.2.2.2]) (fun p => p.1)) := by
  refine T.enter (vs := [.agg (enc f).toArray, strV zone]) (H := H) Tryz.func135 rfl rfl rfl hs ?_
  repeat (any_goals (first | (apply T.seqU 3; rfl) | refine T.region ?_ | refine TL.nil ?_ | refine N.next ?_ | refine N.inBlock ?_ | refine N.exit_same ?_ | refine N.exit_then ?_ | refine N.ret_then ?_ | refine N.ret_block ?_ | (apply N.exit_other; rfl) | refine T.ret ?_ | refine T.skip ?_ | refine T.exit ?_ | refine T.block ?_ | (apply T.cond_true; rfl) | (apply T.cond_false; rfl) | (apply T.test; rfl; (exact isx); intro _; rotate_left; intro _; rotate_right) | (apply TL.skip; rfl; rfl; rfl) | (apply TL.skip_none; rfl; rfl) | (apply TL.val; rfl; rfl; (first | exact vpure | exact vread)) | (apply TL.x; rfl; rfl; (first | exact xgrow | exact xput); intro _ _) | (apply TL.guard; rfl; rfl; rfl; (exact isx); intro _; rotate_left; intro _; rotate_right)))
  rename_i b2 _ b5 _ b7 _
  refine T.blkRow 0 1 1 rfl rfl (by decide) ?_
  have hz60 := meas_le hz
  obtain ⟨K, hK⟩ : ∃ K, K = f.known.els.map Signed.c := ⟨_, rfl⟩
  rw [← hK]
  have hnil : ∀ H' : Hp, Enc.good H' qNil := fun H' => ⟨by decide, by decide⟩
  repeat (any_goals (first | refine T.seq ?_ | refine T.region ?_ | refine TL.nil ?_ | refine N.next ?_ | refine N.inBlock ?_ | refine N.exit_same ?_ | refine N.exit_then ?_ | refine N.ret_then ?_ | refine N.ret_block ?_ | (apply N.exit_other; rfl) | refine T.ret ?_ | refine T.skip ?_ | refine T.exit ?_ | refine T.block ?_ | (apply T.cond_true; rfl) | (apply T.cond_false; rfl) | (apply T.test; rfl; (exact isx); intro _; rotate_left; intro _; rotate_right) | (apply TL.skip; rfl; rfl; rfl) | (apply TL.skip_none; rfl; rfl) | (apply TL.val; rfl; rfl; (first | exact vpure | exact vread)) | (apply TL.x; rfl; rfl; (first | exact xgrow | exact xput); intro _ _) | (apply TL.guard; rfl; rfl; rfl; (exact isx); intro _; rotate_left; intro _; rotate_right)))
  refine T.loop (G := Nat × Bytes × List Bytes × Value) (fun g => [(2, .pointer (some ⟨b2, 0, none⟩)), (5, .pointer (some ⟨b5, 0, none⟩)), (7, g.2.2.2), (8, strV g.2.1)]) (fun _ => H) (fun g => [.row g.2.2.2 9 1 g.2.2.1.length (encs g.2.2.1), .blk b5 23 (enc qNil), .blk b2 203 (enc f)])
    (fun g => nameOK g.2.1 = true ∧ meas g.2.1 < g.1 ∧ g.2.2.1.length + g.1 = 101 ∧ wayC K g.1 g.2.1 g.2.2.1 = wayC K 100 zone [zone] ∧ ∀ x ∈ g.2.2.1, LenOk x) (fun g => g.1) (100, zone, [zone], .slice (some ⟨b7, 0, none⟩) 1 1) ⟨hz, by show meas zone < 100; omega, rfl, rfl, by intro x hx; rw [List.mem_singleton.1 hx]; have := nameOK_le hz; show _ ≤ _; omega⟩ (by (repeat (first | exact True.intro | refine ⟨rfl, ?_⟩ | refine Sub.int rfl (by omega) ?_))) rfl (by exact List.Sublist.refl _) ?_
  rintro ⟨fuel, n, l, v⟩ ⟨hn, hm, hl, hw, hlo⟩
  simp only at hn hm hl hw hlo ⊢
  obtain ⟨k, rfl⟩ : ∃ k, fuel = k + 1 := ⟨fuel - 1, by omega⟩
  have hnl := nameOK_le hn
  by_cases hr : n = [46]
  · subst hr
    rw [wayC_root] at hw
    repeat (any_goals (first | refine T.seq ?_ | refine T.region ?_ | refine TL.nil ?_ | refine N.next ?_ | refine N.inBlock ?_ | refine N.exit_same ?_ | refine N.exit_then ?_ | refine N.ret_then ?_ | refine N.ret_block ?_ | (apply N.exit_other; rfl) | refine T.ret ?_ | refine T.skip ?_ | refine T.exit ?_ | refine T.block ?_ | (apply T.cond_true; rfl) | (apply T.cond_false; rfl) | (apply T.test; rfl; (exact isx); intro _; rotate_left; intro _; rotate_right) | (apply TL.skip; rfl; rfl; rfl) | (apply TL.skip_none; rfl; rfl) | (apply TL.val; rfl; rfl; (apply V.build; (iterate 6 rfl))) | (apply TL.x; rfl; rfl; (apply X.storeTo 1 (enc qNil); (iterate 10 rfl)); intro _ _) | (apply TL.val; rfl; rfl; (first | exact vpure | exact vread)) | (apply TL.x; rfl; rfl; (first | exact xgrow | exact xput); intro _ _) | (apply TL.guard; rfl; rfl; rfl; (exact isx); intro _; rotate_left; intro _; rotate_right)))
    all_goals (try contradiction)
    apply N.ret3; rfl; (exact rvx); (exact rvx); (exact rvx)
    intro w1 hst
    obtain ⟨H2, s2, f1, f2, f3, f4, f5⟩ := hst.freezeRow (α := Bytes) rfl rfl hlo
    exact ⟨(H2, s2, qNil, 0), ⟨by rw [← hw, f2], f3, hnil _⟩, by rw [← f1], f5.fresh⟩
  · have hfc : findC K n 6 = (findS f.known.els n 6).map Signed.c := by rw [hK]; exact findS_c _ _ _
    have hfg := findS_good hg.1 n 6
    cases hfs : findS f.known.els n 6 with
    | none =>
      rw [hfs] at hfc
      rw [wayC_none hr hfc] at hw
      repeat (any_goals (first | refine T.seq ?_ | refine T.region ?_ | refine TL.nil ?_ | refine N.next ?_ | refine N.inBlock ?_ | refine N.exit_same ?_ | refine N.exit_then ?_ | refine N.ret_then ?_ | refine N.ret_block ?_ | (apply N.exit_other; rfl) | refine T.ret ?_ | refine T.skip ?_ | refine T.exit ?_ | refine T.block ?_ | (apply T.cond_true; rfl) | (apply T.cond_false; rfl) | (apply T.test; rfl; (exact isx); intro _; rotate_left; intro _; rotate_right) | (apply TL.skip; rfl; rfl; rfl) | (apply TL.skip_none; rfl; rfl) | (apply TL.callE (f := 175) [.agg (enc f).toArray, strV n, intV 6] Tryz.call175; (iterate 4 rfl); (exact fun _ hs => hfs ▸ c_find f n 6 _ _ hs.sat hg)) | (apply TL.x; rfl; rfl; (apply X.storeTo 0 (enc signedNil); (iterate 10 rfl)); intro _ _) | (apply TL.val; rfl; rfl; (apply V.build; (iterate 6 rfl))) | (apply TL.x; rfl; rfl; (apply X.storeTo 2 (enc (⟨n, 6⟩ : Question)); (iterate 10 rfl)); intro _ _) | (apply TL.val; rfl; rfl; (first | exact vpure | exact vread)) | (apply TL.x; rfl; rfl; (first | exact xgrow | exact xput); intro _ _) | (apply TL.guard; rfl; rfl; rfl; (exact isx); intro _; rotate_left; intro _; rotate_right)))
      all_goals (try contradiction)
      apply N.ret3; rfl; (exact rvx); (exact rvx); (exact rvx)
      intro w1 hst
      exact ⟨(H, Slc.nil _, ⟨n, 6⟩, 4), ⟨by rw [← hw]; rfl, Slc.nil_good, ⟨(show n.length ≤ 9223372036854775807 by omega), (show I64 6 by decide)⟩⟩, rfl, hst.fresh⟩
    | some a =>
      rw [hfs] at hfc hfg
      simp only [Option.map_some, Option.getD_some] at hfc hfg
      have hsl := hfg.2.len
      by_cases h0 : a.sigs.len = 0
      · rw [wayC_nosig hr hfc (List.eq_nil_of_length_eq_zero (by show a.sigs.els.length = 0; omega))] at hw
        repeat (any_goals (first | refine T.seq ?_ | refine T.region ?_ | refine TL.nil ?_ | refine N.next ?_ | refine N.inBlock ?_ | refine N.exit_same ?_ | refine N.exit_then ?_ | refine N.ret_then ?_ | refine N.ret_block ?_ | (apply N.exit_other; rfl) | refine T.ret ?_ | refine T.skip ?_ | refine T.exit ?_ | refine T.block ?_ | (apply T.cond_true; rfl) | (apply T.cond_false; rfl) | (apply T.test; rfl; (exact isx); intro _; rotate_left; intro _; rotate_right) | (apply TL.skip; rfl; rfl; rfl) | (apply TL.skip_none; rfl; rfl) | (apply TL.callE (f := 175) [.agg (enc f).toArray, strV n, intV 6] Tryz.call175; (iterate 4 rfl); (exact fun _ hs => hfs ▸ c_find f n 6 _ _ hs.sat hg)) | (apply TL.x; rfl; rfl; (apply X.storeTo 0 (enc a); (iterate 10 rfl)); intro _ _) | (apply TL.val; rfl; rfl; (apply V.build; (iterate 6 rfl))) | (apply TL.x; rfl; rfl; (apply X.storeTo 2 (enc qNil); (iterate 10 rfl)); intro _ _) | (apply TL.val; rfl; rfl; (first | exact vpure | exact vread)) | (apply TL.x; rfl; rfl; (first | exact xgrow | exact xput); intro _ _) | (apply TL.guard; rfl; rfl; rfl; (exact isx); intro _; rotate_left; intro _; rotate_right)))
        all_goals (try contradiction)
        all_goals (try (exfalso; omega))
        apply N.ret3; rfl; (exact rvx); (exact rvx); (exact rvx)
        intro w1 hst
        exact ⟨(H, Slc.nil _, qNil, 31), ⟨by rw [← hw]; rfl, Slc.nil_good, hnil _⟩, rfl, hst.fresh⟩
      · have h0l : 0 < a.sigs.els.length := by omega
        obtain ⟨g, r, hgr⟩ : ∃ g r, a.sigs.els = g :: r := by
          cases hh : a.sigs.els with
          | nil => rw [hh] at h0l; simp at h0l
          | cons g r => exact ⟨g, r, rfl⟩
        have hg0 : a.sigs.els[0]'h0l = g := by simp [hgr]
        have hgg : Enc.good H g := by rw [← hg0]; exact hfg.2.els _ (List.getElem_mem _)
        rw [wayC_sig hr hfc (show a.c.sigs = g :: r from hgr)] at hw
        have hu1 := underC_val1 (z := g.zone) hn
        have hcell : H.cells a.sigs.b (a.sigs.o + 0 * 6) (enc g) := by
          have := hfg.2.row (k := 0) (by omega)
          rw [hg0] at this
          exact this
        cases hu : (nameOK n && nameOK g.zone && inN n g.zone) with
        | false =>
          rw [hu, if_pos (by simp)] at hw
          rw [hu] at hu1
          have hun : underC n g.zone = (false, (underC n g.zone).2) := by rw [← hu1]
          repeat (any_goals (first | refine T.seq ?_ | refine T.region ?_ | refine TL.nil ?_ | refine N.next ?_ | refine N.inBlock ?_ | refine N.exit_same ?_ | refine N.exit_then ?_ | refine N.ret_then ?_ | refine N.ret_block ?_ | (apply N.exit_other; rfl) | refine T.ret ?_ | refine T.skip ?_ | refine T.exit ?_ | refine T.block ?_ | (apply T.cond_true; rfl) | (apply T.cond_false; rfl) | (apply T.test; rfl; (exact isx); intro _; rotate_left; intro _; rotate_right) | (apply TL.skip; rfl; rfl; rfl) | (apply TL.skip_none; rfl; rfl) | (apply TL.callE (f := 175) [.agg (enc f).toArray, strV n, intV 6] Tryz.call175; (iterate 4 rfl); (exact fun _ hs => hfs ▸ c_find f n 6 _ _ hs.sat hg)) | (apply TL.x; rfl; rfl; (apply X.storeTo 0 (enc a); (iterate 10 rfl)); intro _ _) | (apply TL.val; rfl; rfl; (apply V.elem (j := 0); (iterate 6 rfl); omega; exact hfg.2.at_ (by omega))) | (apply TL.val; rfl; rfl; (apply V.load_H; rfl; rfl; rfl; exact hcell 0 _ rfl)) | (apply TL.callE (f := 69) [strV n, strV g.zone] Tryz.call69; (iterate 4 rfl); (exact fun _ hs => hun ▸ c_Under n g.zone _ _ hs.sat (by show _ ≤ _; omega) hgg.1)) | (apply TL.val; rfl; rfl; (apply V.build; (iterate 6 rfl))) | (apply TL.x; rfl; rfl; (apply X.storeTo 2 (enc qNil); (iterate 10 rfl)); intro _ _) | (apply TL.val; rfl; rfl; (first | exact vpure | exact vread)) | (apply TL.x; rfl; rfl; (first | exact xgrow | exact xput); intro _ _) | (apply TL.guard; rfl; rfl; rfl; (exact isx); intro _; rotate_left; intro _; rotate_right)))
          all_goals (try contradiction)
          all_goals (try (exfalso; omega))
          apply N.ret3; rfl; (exact rvx); (exact rvx); (exact rvx)
          intro w1 hst
          exact ⟨(H, Slc.nil _, qNil, 31), ⟨by rw [← hw]; rfl, Slc.nil_good, hnil _⟩, rfl, hst.fresh⟩
        | true =>
          rw [hu] at hu1
          have hun : underC n g.zone = (true, (underC n g.zone).2) := by rw [← hu1]
          simp only [Bool.and_eq_true] at hu
          obtain ⟨⟨_, hgz⟩, hin⟩ := hu
          have hgl := nameOK_le hgz
          by_cases hne : n = g.zone
          · rw [if_pos (by simp [hne])] at hw
            repeat (any_goals (first | refine T.seq ?_ | refine T.region ?_ | refine TL.nil ?_ | refine N.next ?_ | refine N.inBlock ?_ | refine N.exit_same ?_ | refine N.exit_then ?_ | refine N.ret_then ?_ | refine N.ret_block ?_ | (apply N.exit_other; rfl) | refine T.ret ?_ | refine T.skip ?_ | refine T.exit ?_ | refine T.block ?_ | (apply T.cond_true; rfl) | (apply T.cond_false; rfl) | (apply T.test; rfl; (exact isx); intro _; rotate_left; intro _; rotate_right) | (apply TL.skip; rfl; rfl; rfl) | (apply TL.skip_none; rfl; rfl) | (apply TL.callE (f := 175) [.agg (enc f).toArray, strV n, intV 6] Tryz.call175; (iterate 4 rfl); (exact fun _ hs => hfs ▸ c_find f n 6 _ _ hs.sat hg)) | (apply TL.x; rfl; rfl; (apply X.storeTo 0 (enc a); (iterate 10 rfl)); intro _ _) | (apply TL.val; rfl; rfl; (apply V.elem (j := 0); (iterate 6 rfl); omega; exact hfg.2.at_ (by omega))) | (apply TL.val; rfl; rfl; (apply V.load_H; rfl; rfl; rfl; exact hcell 0 _ rfl)) | (apply TL.callE (f := 69) [strV n, strV g.zone] Tryz.call69; (iterate 4 rfl); (exact fun _ hs => hun ▸ c_Under n g.zone _ _ hs.sat (by show _ ≤ _; omega) hgg.1)) | (apply TL.val; rfl; rfl; (apply V.build; (iterate 6 rfl))) | (apply TL.x; rfl; rfl; (apply X.storeTo 2 (enc qNil); (iterate 10 rfl)); intro _ _) | (apply TL.val; rfl; rfl; (first | exact vpure | exact vread)) | (apply TL.x; rfl; rfl; (first | exact xgrow | exact xput); intro _ _) | (apply TL.guard; rfl; rfl; rfl; (exact isx); intro _; rotate_left; intro _; rotate_right)))
            all_goals (try contradiction)
            all_goals (try (exfalso; omega))
            apply N.ret3; rfl; (exact rvx); (exact rvx); (exact rvx)
            intro w1 hst
            exact ⟨(H, Slc.nil _, qNil, 31), ⟨by rw [← hw]; rfl, Slc.nil_good, hnil _⟩, rfl, hst.fresh⟩
          · rw [if_neg (by simp [hne, hn, hgz, hin])] at hw
            have hmu := meas_up hn hgz hin hne hr
            repeat (any_goals (first | refine T.seq ?_ | refine T.region ?_ | refine TL.nil ?_ | refine N.next ?_ | refine N.inBlock ?_ | refine N.exit_same ?_ | refine N.exit_then ?_ | refine N.ret_then ?_ | refine N.ret_block ?_ | (apply N.exit_other; rfl) | refine T.ret ?_ | refine T.skip ?_ | refine T.exit ?_ | refine T.block ?_ | (apply T.cond_true; rfl) | (apply T.cond_false; rfl) | (apply T.test; rfl; (exact isx); intro _; rotate_left; intro _; rotate_right) | (apply TL.skip; rfl; rfl; rfl) | (apply TL.skip_none; rfl; rfl) | (apply TL.callE (f := 175) [.agg (enc f).toArray, strV n, intV 6] Tryz.call175; (iterate 4 rfl); (exact fun _ hs => hfs ▸ c_find f n 6 _ _ hs.sat hg)) | (apply TL.x; rfl; rfl; (apply X.storeTo 0 (enc a); (iterate 10 rfl)); intro _ _) | (apply TL.val; rfl; rfl; (apply V.elem (j := 0); (iterate 6 rfl); omega; exact hfg.2.at_ (by omega))) | (apply TL.val; rfl; rfl; (apply V.load_H; rfl; rfl; rfl; exact hcell 0 _ rfl)) | (apply TL.callE (f := 69) [strV n, strV g.zone] Tryz.call69; (iterate 4 rfl); (exact fun _ hs => hun ▸ c_Under n g.zone _ _ hs.sat (by show _ ≤ _; omega) hgg.1)) | (apply TL.x; rfl; rfl; (apply X.append 2 (j := 1) (news := [strV g.zone]); (iterate 9 rfl); exact List.Mem.head _; rfl; rfl; (show (l.length + 1) * 16 ≤ _; omega); omega); intro v2 _) | (apply TL.val; rfl; rfl; (first | exact vpure | exact vread)) | (apply TL.x; rfl; rfl; (first | exact xgrow | exact xput); intro _ _) | (apply TL.guard; rfl; rfl; rfl; (exact isx); intro _; rotate_left; intro _; rotate_right)))
            all_goals (try contradiction)
            all_goals (try (exfalso; omega))
            refine N.round (k, g.zone, l ++ [g.zone], v2) ⟨hgz, by show meas g.zone < k; omega, by simp; omega, hw, fun x hx => ?_⟩ (by show k < k + 1; omega) (by (repeat (first | exact True.intro | refine ⟨rfl, ?_⟩ | refine Sub.int rfl (by omega) ?_))) rfl ?_
            · rcases List.mem_append.1 hx with h | h
              · exact hlo x h
              · rw [List.mem_singleton.1 h]; show _ ≤ _; omega
            · show List.Sublist [Loc.row v2 9 1 (l ++ [g.zone]).length (encs (l ++ [g.zone])), Loc.blk b5 23 (enc qNil), Loc.blk b2 203 (enc f)] _
              rw [List.length_append, encs_snoc]
              exact List.Sublist.cons _ (List.Sublist.cons _ (List.Sublist.refl _))
end Go.Proofs.YtpnoabbdcakjkaaGreatDoor
namespace Go.Proofs.YtpnoabbdcakjkaaGreatDoor
set_option linter.unusedVariables false
set_option linter.unusedSimpArgs false
open Go Go.RowKit
open Enc (enc)
set_option maxRecDepth 20000

theorem c_trusted (b : Bool) (H : Hp) (w : World) (hs : Sat H w) : Calls Tryz.prog 177 #[.bool b] w (Ret w (intV (if b = true then 0 else 31))) := by
  refine T.enter (vs := [.bool b]) (H := H) Tryz.func177 rfl rfl rfl hs ?_
  cases b
  · repeat (any_goals (first | refine T.seq ?_ | refine T.region ?_ | refine TL.nil ?_ | refine N.next ?_ | refine N.inBlock ?_ | refine N.exit_same ?_ | refine N.exit_then ?_ | refine N.ret_then ?_ | refine N.ret_block ?_ | (apply N.exit_other; rfl) | refine T.ret ?_ | refine T.skip ?_ | refine T.exit ?_ | refine T.block ?_ | (apply T.cond_true; rfl) | (apply T.cond_false; rfl) | (apply T.test; rfl; (exact isx); intro _; rotate_left; intro _; rotate_right) | (apply TL.skip; rfl; rfl; rfl) | (apply TL.skip_none; rfl; rfl) | (apply TL.val; rfl; rfl; (first | exact vpure | exact vread)) | (apply TL.x; rfl; rfl; (first | exact xgrow | exact xput); intro _ _) | (apply TL.guard; rfl; rfl; rfl; (exact isx); intro _; rotate_left; intro _; rotate_right)))
    all_goals (try (first | (apply N.ret_bool; rfl; (exact rvx)) | (apply N.ret_int; rfl; (exact rvx)) | (apply N.ret_val; rfl; (exact rvx))))
    rfl
  · repeat (any_goals (first | refine T.seq ?_ | refine T.region ?_ | refine TL.nil ?_ | refine N.next ?_ | refine N.inBlock ?_ | refine N.exit_same ?_ | refine N.exit_then ?_ | refine N.ret_then ?_ | refine N.ret_block ?_ | (apply N.exit_other; rfl) | refine T.ret ?_ | refine T.skip ?_ | refine T.exit ?_ | refine T.block ?_ | (apply T.cond_true; rfl) | (apply T.cond_false; rfl) | (apply T.test; rfl; (exact isx); intro _; rotate_left; intro _; rotate_right) | (apply TL.skip; rfl; rfl; rfl) | (apply TL.skip_none; rfl; rfl) | (apply TL.val; rfl; rfl; (first | exact vpure | exact vread)) | (apply TL.x; rfl; rfl; (first | exact xgrow | exact xput); intro _ _) | (apply TL.guard; rfl; rfl; rfl; (exact isx); intro _; rotate_left; intro _; rotate_right)))
    all_goals (try (first | (apply N.ret_bool; rfl; (exact rvx)) | (apply N.ret_int; rfl; (exact rvx)) | (apply N.ret_val; rfl; (exact rvx))))
    rfl
section
variable {w0 w : World} {H0 H : Hp} {L : List Loc}
abbrev ptrT (b : Nat) : Value := .pointer (some ⟨b, 0, none⟩)
abbrev fL (b12 b11 b8 b7 : Nat) (kn an : Signed) (q : Question) (keys : Slc KeyC) (L : List Loc) : List Loc := .blk b12 69 (enc kn) :: .blk b11 69 (enc an) :: .blk b8 23 (enc q) :: .blk b7 165 [keys.v] :: L
structure FollowH (H : Hp) (f : Finder) (way : Slc Bytes) (i : Nat) (b2 b3 b10 : Nat) : Prop where
  fin : H.cells b2 0 (enc f)
  wc : H.cells b3 0 [way.v]
  idx : H.cells b10 0 [intV (i : Int)]
  good : Enc.good H f
  wgood : way.Good H
  lt : i < way.len
variable {f : Finder} {way : Slc Bytes} {i b2 b3 b10 b12 b11 b8 b7 : Nat} {kn an : Signed} {q : Question} {keys : Slc KeyC}
theorem c_follow1R (hs : St w0 H0 H (fL b12 b11 b8 b7 kn an q keys L) w) (hf : FollowH H f way i b2 b3 b10) (hz : way.els[i]? = some [46]) : CallsIn (FW none) 0 Tryz.prog 176 #[ptrT b3, ptrT b10, ptrT b2, ptrT b11, ptrT b7] w (fun e w' => ∃ _g : Unit, True ∧ e = .returned (intV 0) ∧ St w0 H0 H (fL b12 b11 b8 b7 kn an q keys L) w') := by
  refine T.enterIn (vs := [ptrT b3, ptrT b10, ptrT b2, ptrT b11, ptrT b7]) Tryz.func176 rfl rfl rfl hs ?_
  have hi := hf.lt
  have hil : i < way.els.length := by rw [hf.wgood.len]; exact hi
  have hcell : H.cells way.b (way.o + i * 1) (enc (way.els[i]'hil)) := hf.wgood.row hi
  have hzz : way.els[i]'hil = [46] := (List.getElem?_eq_some_iff.1 hz).2
  repeat (any_goals (first | refine T.seq ?_ | refine T.region ?_ | (apply T.regionD wide; rfl) | refine TL.nil ?_ | refine N.next ?_ | refine N.inBlock ?_ | refine N.exit_same ?_ | refine N.exit_then ?_ | refine N.ret_then ?_ | refine N.ret_block ?_ | (apply N.exit_other; rfl) | refine T.ret ?_ | refine T.skip ?_ | refine T.exit ?_ | refine T.block ?_ | (apply T.cond_true; rfl) | (apply T.cond_false; rfl) | (apply T.test; rfl; (exact isx); intro _; rotate_left; intro _; rotate_right) | (apply TL.skip; rfl; rfl; rfl) | (apply TL.skip_none; rfl; rfl) | (apply GT.skip; rfl; rfl; rfl; decide +kernel) | (apply TL.val; rfl; rfl; (apply V.load_H; rfl; rfl; rfl; (first | exact hf.wc 0 _ rfl | exact hf.idx 0 _ rfl | exact hcell 0 _ rfl))) | (apply GT.pure; (iterate 4 rfl); (apply V.load_H; rfl; rfl; rfl; (first | exact hf.wc 0 _ rfl | exact hf.idx 0 _ rfl | exact hcell 0 _ rfl)); decide +kernel) | (apply GT.read; (iterate 4 rfl); (apply V.load_H; rfl; rfl; rfl; (first | exact hf.wc 0 _ rfl | exact hf.idx 0 _ rfl | exact hcell 0 _ rfl)); decide +kernel) | (apply TL.val; rfl; rfl; (apply V.elem (j := i); (iterate 6 rfl); exact hi; exact hf.wgood.at_ (by omega))) | (apply GT.pure; (iterate 4 rfl); (apply V.elem (j := i); (iterate 6 rfl); exact hi; exact hf.wgood.at_ (by omega)); decide +kernel) | (apply GT.read; (iterate 4 rfl); (apply V.elem (j := i); (iterate 6 rfl); exact hi; exact hf.wgood.at_ (by omega)); decide +kernel) | (apply TL.val; rfl; rfl; (first | exact vpure | exact vread)) | (apply GT.pure; (iterate 4 rfl); (first | exact vpure); decide +kernel) | (apply GT.read; (iterate 4 rfl); (first | exact vpure | exact vread); decide +kernel) | (apply GT.done; decide +kernel; apply N.ofQ) | (apply GT.adv; rfl) | (apply TL.x; rfl; rfl; (first | exact xgrow | exact xput); intro _ _) | (apply GS.grow; rfl; rfl; (first | exact xgrow); intro _ _) | (apply GS.eff; rfl; decide +kernel; rfl; (first | exact xput); intro _ _) | (apply TL.guard; rfl; rfl; rfl; (exact isx); intro _; rotate_left; intro _; rotate_right) | (apply GT.guard; (iterate 4 rfl); (exact isx); intro _; rotate_left; intro _; rotate_right) | (apply GT.fork1; decide +kernel) | (apply GT.fork2 1; decide +kernel) | (apply GT.fork2 2; decide +kernel) | (apply GT.fork2 3; decide +kernel) | (apply GT.fork2 4; decide +kernel) | (apply GT.fork2 5; decide +kernel) | (apply GT.fork2 6; decide +kernel) | (apply GT.fork2 7; decide +kernel) | (apply GT.fork2 8; decide +kernel) | (apply GT.fork2 9; decide +kernel) | (apply GT.fork2 10; decide +kernel) | (apply GT.fork2 11; decide +kernel) | (apply GT.fork2 12; decide +kernel) | (apply GT.fork2 13; decide +kernel) | (apply GT.fork2 14; decide +kernel)))
  all_goals (try contradiction)
  apply N.ret1; rfl; (exact rvx)
  intro w1 hst
  exact ⟨(), trivial, rfl, hst⟩
set_option maxHeartbeats 2000000 in
theorem c_follow1N (hs : St w0 H0 H (fL b12 b11 b8 b7 kn an q keys L) w) (hR : Rules H) (hf : FollowH H f way i b2 b3 b10) (hk : keys.Good H) {z o : Bytes} (hz : way.els[i]? = some z) (hzr : z ≠ [46]) (ho : way.els[i + 1]? = some o) {x : Signed} (hx : x = (findS f.known.els z 6).getD signedNil) {r : Bool} (hr : signedBy x.c o keys.els f.at_ f.drift = r) :
    CallsIn (FW none) 0 Tryz.prog 176 #[ptrT b3, ptrT b10, ptrT b2, ptrT b11, ptrT b7] w (fun e w' => ∃ _g : Unit, True ∧ e = .returned (intV (if r = true then 0 else 31)) ∧ St w0 H0 H (fL b12 b11 b8 b7 kn x q keys L) w') := by
  refine T.enterIn (vs := [ptrT b3, ptrT b10, ptrT b2, ptrT b11, ptrT b7]) Tryz.func176 rfl rfl rfl hs ?_
  have hi := hf.lt
  have hil : i < way.els.length := by rw [hf.wgood.len]; exact hi
  have hcell : H.cells way.b (way.o + i * 1) (enc (way.els[i]'hil)) := hf.wgood.row hi
  have hzz : way.els[i]'hil = z := (List.getElem?_eq_some_iff.1 hz).2
  rw [hzz] at hcell
  have hi1 : i + 1 < way.len := by rw [← hf.wgood.len]; exact (List.getElem?_eq_some_iff.1 ho).1
  have hcell1 : H.cells way.b (way.o + (i + 1) * 1) (enc o) := by
    have := hf.wgood.row hi1
    rw [(List.getElem?_eq_some_iff.1 ho).2] at this
    exact this
  have hlim := hf.wgood.lim
  have hxg : Enc.good H x := by rw [hx]; exact findS_good hf.good.1 z 6
  have m2 : H.cells b2 (0 + 5) [intV f.at_] := cells_take (cells_drop hf.fin 5) 1
  have m3 : H.cells b2 (0 + 6) [intV f.drift] := cells_take (cells_drop hf.fin 6) 1
  repeat (any_goals (first | refine T.seq ?_ | refine T.region ?_ | (apply T.regionD wide; rfl) | refine TL.nil ?_ | refine N.next ?_ | refine N.inBlock ?_ | refine N.exit_same ?_ | refine N.exit_then ?_ | refine N.ret_then ?_ | refine N.ret_block ?_ | (apply N.exit_other; rfl) | refine T.ret ?_ | refine T.skip ?_ | refine T.exit ?_ | refine T.block ?_ | (apply T.cond_true; rfl) | (apply T.cond_false; rfl) | (apply T.test; rfl; (exact isx); intro _; rotate_left; intro _; rotate_right) | (apply TL.skip; rfl; rfl; rfl) | (apply TL.skip_none; rfl; rfl) | (apply GT.skip; rfl; rfl; rfl; decide +kernel) | (apply TL.val; rfl; rfl; (apply V.load_H_row; rfl; rfl; rfl; exact hf.fin; rfl)) | (apply GT.pure; (iterate 4 rfl); (apply V.load_H_row; rfl; rfl; rfl; exact hf.fin; rfl); decide +kernel) | (apply GT.read; (iterate 4 rfl); (apply V.load_H_row; rfl; rfl; rfl; exact hf.fin; rfl); decide +kernel) | (apply TL.val; rfl; rfl; (apply V.load_H; rfl; rfl; rfl; (first | exact hf.wc 0 _ rfl | exact hf.idx 0 _ rfl | exact hcell 0 _ rfl | exact hcell1 0 _ rfl | exact m2 0 _ rfl | exact m3 0 _ rfl))) | (apply GT.pure; (iterate 4 rfl); (apply V.load_H; rfl; rfl; rfl; (first | exact hf.wc 0 _ rfl | exact hf.idx 0 _ rfl | exact hcell 0 _ rfl | exact hcell1 0 _ rfl | exact m2 0 _ rfl | exact m3 0 _ rfl)); decide +kernel) | (apply GT.read; (iterate 4 rfl); (apply V.load_H; rfl; rfl; rfl; (first | exact hf.wc 0 _ rfl | exact hf.idx 0 _ rfl | exact hcell 0 _ rfl | exact hcell1 0 _ rfl | exact m2 0 _ rfl | exact m3 0 _ rfl)); decide +kernel) | (apply TL.val; rfl; rfl; (apply V.elem (j := i); (iterate 6 rfl); exact hi; exact hf.wgood.at_ (by omega))) | (apply GT.pure; (iterate 4 rfl); (apply V.elem (j := i); (iterate 6 rfl); exact hi; exact hf.wgood.at_ (by omega)); decide +kernel) | (apply GT.read; (iterate 4 rfl); (apply V.elem (j := i); (iterate 6 rfl); exact hi; exact hf.wgood.at_ (by omega)); decide +kernel) | (apply TL.val; rfl; rfl; (apply V.elem (j := i + 1); (iterate 5 rfl); (show _ = _; omega); exact hi1; exact hf.wgood.at_ (by omega))) | (apply GT.pure; (iterate 4 rfl); (apply V.elem (j := i + 1); (iterate 5 rfl); (show _ = _; omega); exact hi1; exact hf.wgood.at_ (by omega)); decide +kernel) | (apply GT.read; (iterate 4 rfl); (apply V.elem (j := i + 1); (iterate 5 rfl); (show _ = _; omega); exact hi1; exact hf.wgood.at_ (by omega)); decide +kernel) | (apply TL.callE (f := 175) [.agg (enc f).toArray, strV z, intV 6] Tryz.call175; (iterate 4 rfl); (exact fun _ hs => hx ▸ c_find f z 6 _ _ hs.sat hf.good)) | (apply GT.callE (f := 175) [.agg (enc f).toArray, strV z, intV 6] Tryz.call175; (iterate 6 rfl); (exact fun _ hs => hx ▸ c_find f z 6 _ _ hs.sat hf.good); decide +kernel) | (apply GS.eff; rfl; decide +kernel; rfl; (apply X.storeTo 1 (enc x); (iterate 10 rfl)); intro _ _) | (apply TL.callE (f := 96) [.agg (enc x).toArray, strV o, keys.v, intV f.at_, intV f.drift] Tryz.call96; (iterate 4 rfl); (exact fun _ hs => hr ▸ c_trustSigned x o keys f.at_ f.drift _ _ hs.sat hR hxg hk)) | (apply GT.callE (f := 96) [.agg (enc x).toArray, strV o, keys.v, intV f.at_, intV f.drift] Tryz.call96; (iterate 6 rfl); (exact fun _ hs => hr ▸ c_trustSigned x o keys f.at_ f.drift _ _ hs.sat hR hxg hk); decide +kernel) | (apply TL.callE (f := 177) [.bool r] Tryz.call177; (iterate 4 rfl); (exact fun _ hs => c_trusted r _ _ hs.sat)) | (apply GT.callE (f := 177) [.bool r] Tryz.call177; (iterate 6 rfl); (exact fun _ hs => c_trusted r _ _ hs.sat); decide +kernel) | (apply TL.val; rfl; rfl; (first | exact vpure | exact vread)) | (apply GT.pure; (iterate 4 rfl); (first | exact vpure); decide +kernel) | (apply GT.read; (iterate 4 rfl); (first | exact vpure | exact vread); decide +kernel) | (apply GT.done; decide +kernel; apply N.ofQ) | (apply GT.adv; rfl) | (apply TL.x; rfl; rfl; (first | exact xgrow | exact xput); intro _ _) | (apply GS.grow; rfl; rfl; (first | exact xgrow); intro _ _) | (apply GS.eff; rfl; decide +kernel; rfl; (first | exact xput); intro _ _) | (apply GT.pureAt 1; (iterate 4 rfl); (first | exact vpure); decide +kernel) | (apply GT.readAt 1; (iterate 4 rfl); (first | exact vpure | exact vread); decide +kernel) | (apply GT.pureAt 2; (iterate 4 rfl); (first | exact vpure); decide +kernel) | (apply GT.readAt 2; (iterate 4 rfl); (first | exact vpure | exact vread); decide +kernel) | (apply GT.pureAt 3; (iterate 4 rfl); (first | exact vpure); decide +kernel) | (apply GT.readAt 3; (iterate 4 rfl); (first | exact vpure | exact vread); decide +kernel) | (apply GT.pureAt 4; (iterate 4 rfl); (first | exact vpure); decide +kernel) | (apply GT.readAt 4; (iterate 4 rfl); (first | exact vpure | exact vread); decide +kernel) | (apply GT.pureAt 5; (iterate 4 rfl); (first | exact vpure); decide +kernel) | (apply GT.readAt 5; (iterate 4 rfl); (first | exact vpure | exact vread); decide +kernel) | (apply GT.pureAt 6; (iterate 4 rfl); (first | exact vpure); decide +kernel) | (apply GT.readAt 6; (iterate 4 rfl); (first | exact vpure | exact vread); decide +kernel) | (apply GT.pureAt 7; (iterate 4 rfl); (first | exact vpure); decide +kernel) | (apply GT.readAt 7; (iterate 4 rfl); (first | exact vpure | exact vread); decide +kernel) | (apply GT.pureAt 8; (iterate 4 rfl); (first | exact vpure); decide +kernel) | (apply GT.readAt 8; (iterate 4 rfl); (first | exact vpure | exact vread); decide +kernel) | (apply GT.pureAt 9; (iterate 4 rfl); (first | exact vpure); decide +kernel) | (apply GT.readAt 9; (iterate 4 rfl); (first | exact vpure | exact vread); decide +kernel) | (apply GT.pureAt 10; (iterate 4 rfl); (first | exact vpure); decide +kernel) | (apply GT.readAt 10; (iterate 4 rfl); (first | exact vpure | exact vread); decide +kernel) | (apply GT.pureAt 11; (iterate 4 rfl); (first | exact vpure); decide +kernel) | (apply GT.readAt 11; (iterate 4 rfl); (first | exact vpure | exact vread); decide +kernel) | (apply GT.pureAt 12; (iterate 4 rfl); (first | exact vpure); decide +kernel) | (apply GT.readAt 12; (iterate 4 rfl); (first | exact vpure | exact vread); decide +kernel) | (apply GT.pureAt 13; (iterate 4 rfl); (first | exact vpure); decide +kernel) | (apply GT.readAt 13; (iterate 4 rfl); (first | exact vpure | exact vread); decide +kernel) | (apply TL.guard; rfl; rfl; rfl; (exact isx); intro _; rotate_left; intro _; rotate_right) | (apply GT.guard; (iterate 4 rfl); (exact isx); intro _; rotate_left; intro _; rotate_right) | (apply GT.fork1; decide +kernel) | (apply GT.fork2 1; decide +kernel) | (apply GT.fork2 2; decide +kernel) | (apply GT.fork2 3; decide +kernel) | (apply GT.fork2 4; decide +kernel) | (apply GT.fork2 5; decide +kernel) | (apply GT.fork2 6; decide +kernel) | (apply GT.fork2 7; decide +kernel) | (apply GT.fork2 8; decide +kernel) | (apply GT.fork2 9; decide +kernel) | (apply GT.fork2 10; decide +kernel) | (apply GT.fork2 11; decide +kernel) | (apply GT.fork2 12; decide +kernel) | (apply GT.fork2 13; decide +kernel) | (apply GT.fork2 14; decide +kernel)))
  all_goals (try contradiction)
  apply N.ret1; rfl; (exact rvx)
  intro w1 hst
  exact ⟨(), trivial, rfl, hst⟩
theorem c_follow2T (hs : St w0 H0 H (fL b12 b11 b8 b7 kn an q keys L) w) (hf : FollowH H f way i b2 b3 b10) {z : Bytes} (hz : way.els[i]? = some z) {x : Signed} (hx : findS f.known.els z 7 = some x) :
    CallsIn (FW none) 0 Tryz.prog 178 #[ptrT b2, ptrT b3, ptrT b10, ptrT b12, ptrT b8] w (fun e w' => ∃ _g : Unit, True ∧ e = .returned (intV 0) ∧ St w0 H0 H (fL b12 b11 b8 b7 x an q keys L) w') := by
  refine T.enterIn (vs := [ptrT b2, ptrT b3, ptrT b10, ptrT b12, ptrT b8]) Tryz.func178 rfl rfl rfl hs ?_
  have hi := hf.lt
  have hil : i < way.els.length := by rw [hf.wgood.len]; exact hi
  have hcell : H.cells way.b (way.o + i * 1) (enc (way.els[i]'hil)) := hf.wgood.row hi
  have hzz : way.els[i]'hil = z := (List.getElem?_eq_some_iff.1 hz).2
  rw [hzz] at hcell
  repeat (any_goals (first | refine T.seq ?_ | refine T.region ?_ | (apply T.regionD wide; rfl) | refine TL.nil ?_ | refine N.next ?_ | refine N.inBlock ?_ | refine N.exit_same ?_ | refine N.exit_then ?_ | refine N.ret_then ?_ | refine N.ret_block ?_ | (apply N.exit_other; rfl) | refine T.ret ?_ | refine T.skip ?_ | refine T.exit ?_ | refine T.block ?_ | (apply T.cond_true; rfl) | (apply T.cond_false; rfl) | (apply T.test; rfl; (exact isx); intro _; rotate_left; intro _; rotate_right) | (apply TL.skip; rfl; rfl; rfl) | (apply TL.skip_none; rfl; rfl) | (apply GT.skip; rfl; rfl; rfl; decide +kernel) | (apply TL.val; rfl; rfl; (apply V.load_H_row; rfl; rfl; rfl; exact hf.fin; rfl)) | (apply GT.pure; (iterate 4 rfl); (apply V.load_H_row; rfl; rfl; rfl; exact hf.fin; rfl); decide +kernel) | (apply GT.read; (iterate 4 rfl); (apply V.load_H_row; rfl; rfl; rfl; exact hf.fin; rfl); decide +kernel) | (apply TL.val; rfl; rfl; (apply V.load_H; rfl; rfl; rfl; (first | exact hf.wc 0 _ rfl | exact hf.idx 0 _ rfl | exact hcell 0 _ rfl))) | (apply GT.pure; (iterate 4 rfl); (apply V.load_H; rfl; rfl; rfl; (first | exact hf.wc 0 _ rfl | exact hf.idx 0 _ rfl | exact hcell 0 _ rfl)); decide +kernel) | (apply GT.read; (iterate 4 rfl); (apply V.load_H; rfl; rfl; rfl; (first | exact hf.wc 0 _ rfl | exact hf.idx 0 _ rfl | exact hcell 0 _ rfl)); decide +kernel) | (apply TL.val; rfl; rfl; (apply V.elem (j := i); (iterate 6 rfl); exact hi; exact hf.wgood.at_ (by omega))) | (apply GT.pure; (iterate 4 rfl); (apply V.elem (j := i); (iterate 6 rfl); exact hi; exact hf.wgood.at_ (by omega)); decide +kernel) | (apply GT.read; (iterate 4 rfl); (apply V.elem (j := i); (iterate 6 rfl); exact hi; exact hf.wgood.at_ (by omega)); decide +kernel) | (apply TL.callE (f := 175) [.agg (enc f).toArray, strV z, intV 7] Tryz.call175; (iterate 4 rfl); (exact fun _ hs => hx ▸ c_find f z 7 _ _ hs.sat hf.good)) | (apply GT.callE (f := 175) [.agg (enc f).toArray, strV z, intV 7] Tryz.call175; (iterate 6 rfl); (exact fun _ hs => hx ▸ c_find f z 7 _ _ hs.sat hf.good); decide +kernel) | (apply GS.eff; rfl; decide +kernel; rfl; (apply X.storeTo 0 (enc x); (iterate 10 rfl)); intro _ _) | (apply TL.val; rfl; rfl; (first | exact vpure | exact vread)) | (apply GT.pure; (iterate 4 rfl); (first | exact vpure); decide +kernel) | (apply GT.read; (iterate 4 rfl); (first | exact vpure | exact vread); decide +kernel) | (apply GT.done; decide +kernel; apply N.ofQ) | (apply GT.adv; rfl) | (apply TL.x; rfl; rfl; (first | exact xgrow | exact xput); intro _ _) | (apply GS.grow; rfl; rfl; (first | exact xgrow); intro _ _) | (apply GS.eff; rfl; decide +kernel; rfl; (first | exact xput); intro _ _) | (apply GT.pureAt 1; (iterate 4 rfl); (first | exact vpure); decide +kernel) | (apply GT.readAt 1; (iterate 4 rfl); (first | exact vpure | exact vread); decide +kernel) | (apply GT.pureAt 2; (iterate 4 rfl); (first | exact vpure); decide +kernel) | (apply GT.readAt 2; (iterate 4 rfl); (first | exact vpure | exact vread); decide +kernel) | (apply GT.pureAt 3; (iterate 4 rfl); (first | exact vpure); decide +kernel) | (apply GT.readAt 3; (iterate 4 rfl); (first | exact vpure | exact vread); decide +kernel) | (apply GT.pureAt 4; (iterate 4 rfl); (first | exact vpure); decide +kernel) | (apply GT.readAt 4; (iterate 4 rfl); (first | exact vpure | exact vread); decide +kernel) | (apply GT.pureAt 5; (iterate 4 rfl); (first | exact vpure); decide +kernel) | (apply GT.readAt 5; (iterate 4 rfl); (first | exact vpure | exact vread); decide +kernel) | (apply GT.pureAt 6; (iterate 4 rfl); (first | exact vpure); decide +kernel) | (apply GT.readAt 6; (iterate 4 rfl); (first | exact vpure | exact vread); decide +kernel) | (apply GT.pureAt 7; (iterate 4 rfl); (first | exact vpure); decide +kernel) | (apply GT.readAt 7; (iterate 4 rfl); (first | exact vpure | exact vread); decide +kernel) | (apply GT.pureAt 8; (iterate 4 rfl); (first | exact vpure); decide +kernel) | (apply GT.readAt 8; (iterate 4 rfl); (first | exact vpure | exact vread); decide +kernel) | (apply GT.pureAt 9; (iterate 4 rfl); (first | exact vpure); decide +kernel) | (apply GT.readAt 9; (iterate 4 rfl); (first | exact vpure | exact vread); decide +kernel) | (apply GT.pureAt 10; (iterate 4 rfl); (first | exact vpure); decide +kernel) | (apply GT.readAt 10; (iterate 4 rfl); (first | exact vpure | exact vread); decide +kernel) | (apply TL.guard; rfl; rfl; rfl; (exact isx); intro _; rotate_left; intro _; rotate_right) | (apply GT.guard; (iterate 4 rfl); (exact isx); intro _; rotate_left; intro _; rotate_right) | (apply GT.fork1; decide +kernel) | (apply GT.fork2 1; decide +kernel) | (apply GT.fork2 2; decide +kernel) | (apply GT.fork2 3; decide +kernel) | (apply GT.fork2 4; decide +kernel) | (apply GT.fork2 5; decide +kernel) | (apply GT.fork2 6; decide +kernel) | (apply GT.fork2 7; decide +kernel) | (apply GT.fork2 8; decide +kernel) | (apply GT.fork2 9; decide +kernel) | (apply GT.fork2 10; decide +kernel) | (apply GT.fork2 11; decide +kernel) | (apply GT.fork2 12; decide +kernel) | (apply GT.fork2 13; decide +kernel) | (apply GT.fork2 14; decide +kernel)))
  all_goals (try contradiction)
  apply N.ret1; rfl; (exact rvx)
  intro w1 hst
  exact ⟨(), trivial, rfl, hst⟩
theorem c_follow2F (hs : St w0 H0 H (fL b12 b11 b8 b7 kn an q keys L) w) (hf : FollowH H f way i b2 b3 b10) {z : Bytes} (hz : way.els[i]? = some z) (hx : findS f.known.els z 7 = none) :
    CallsIn (FW none) 0 Tryz.prog 178 #[ptrT b2, ptrT b3, ptrT b10, ptrT b12, ptrT b8] w (fun e w' => ∃ _g : Unit, True ∧ e = .returned (intV 4) ∧ St w0 H0 H (fL b12 b11 b8 b7 signedNil an ⟨z, 7⟩ keys L) w') := by
  refine T.enterIn (vs := [ptrT b2, ptrT b3, ptrT b10, ptrT b12, ptrT b8]) Tryz.func178 rfl rfl rfl hs ?_
  have hi := hf.lt
  have hil : i < way.els.length := by rw [hf.wgood.len]; exact hi
  have hcell : H.cells way.b (way.o + i * 1) (enc (way.els[i]'hil)) := hf.wgood.row hi
  have hzz : way.els[i]'hil = z := (List.getElem?_eq_some_iff.1 hz).2
  rw [hzz] at hcell
  repeat (any_goals (first | refine T.seq ?_ | refine T.region ?_ | (apply T.regionD wide; rfl) | refine TL.nil ?_ | refine N.next ?_ | refine N.inBlock ?_ | refine N.exit_same ?_ | refine N.exit_then ?_ | refine N.ret_then ?_ | refine N.ret_block ?_ | (apply N.exit_other; rfl) | refine T.ret ?_ | refine T.skip ?_ | refine T.exit ?_ | refine T.block ?_ | (apply T.cond_true; rfl) | (apply T.cond_false; rfl) | (apply T.test; rfl; (exact isx); intro _; rotate_left; intro _; rotate_right) | (apply TL.skip; rfl; rfl; rfl) | (apply TL.skip_none; rfl; rfl) | (apply GT.skip; rfl; rfl; rfl; decide +kernel) | (apply TL.val; rfl; rfl; (apply V.load_H_row; rfl; rfl; rfl; exact hf.fin; rfl)) | (apply GT.pure; (iterate 4 rfl); (apply V.load_H_row; rfl; rfl; rfl; exact hf.fin; rfl); decide +kernel) | (apply GT.read; (iterate 4 rfl); (apply V.load_H_row; rfl; rfl; rfl; exact hf.fin; rfl); decide +kernel) | (apply TL.val; rfl; rfl; (apply V.load_H; rfl; rfl; rfl; (first | exact hf.wc 0 _ rfl | exact hf.idx 0 _ rfl | exact hcell 0 _ rfl))) | (apply GT.pure; (iterate 4 rfl); (apply V.load_H; rfl; rfl; rfl; (first | exact hf.wc 0 _ rfl | exact hf.idx 0 _ rfl | exact hcell 0 _ rfl)); decide +kernel) | (apply GT.read; (iterate 4 rfl); (apply V.load_H; rfl; rfl; rfl; (first | exact hf.wc 0 _ rfl | exact hf.idx 0 _ rfl | exact hcell 0 _ rfl)); decide +kernel) | (apply TL.val; rfl; rfl; (apply V.elem (j := i); (iterate 6 rfl); exact hi; exact hf.wgood.at_ (by omega))) | (apply GT.pure; (iterate 4 rfl); (apply V.elem (j := i); (iterate 6 rfl); exact hi; exact hf.wgood.at_ (by omega)); decide +kernel) | (apply GT.read; (iterate 4 rfl); (apply V.elem (j := i); (iterate 6 rfl); exact hi; exact hf.wgood.at_ (by omega)); decide +kernel) | (apply TL.callE (f := 175) [.agg (enc f).toArray, strV z, intV 7] Tryz.call175; (iterate 4 rfl); (exact fun _ hs => hx ▸ c_find f z 7 _ _ hs.sat hf.good)) | (apply GT.callE (f := 175) [.agg (enc f).toArray, strV z, intV 7] Tryz.call175; (iterate 6 rfl); (exact fun _ hs => hx ▸ c_find f z 7 _ _ hs.sat hf.good); decide +kernel) | (apply GS.eff; rfl; decide +kernel; rfl; (apply X.storeTo 0 (enc signedNil); (iterate 10 rfl)); intro _ _) | (apply TL.val; rfl; rfl; (apply V.build; (iterate 6 rfl))) | (apply GT.pure; (iterate 4 rfl); (apply V.build; (iterate 6 rfl)); decide +kernel) | (apply GT.read; (iterate 4 rfl); (apply V.build; (iterate 6 rfl)); decide +kernel) | (apply TL.x; rfl; rfl; (apply X.storeTo 2 (enc (⟨z, 7⟩ : Question)); (iterate 10 rfl)); intro _ _) | (apply GS.eff; rfl; decide +kernel; rfl; (apply X.storeTo 2 (enc (⟨z, 7⟩ : Question)); (iterate 10 rfl)); intro _ _) | (apply TL.val; rfl; rfl; (first | exact vpure | exact vread)) | (apply GT.pure; (iterate 4 rfl); (first | exact vpure); decide +kernel) | (apply GT.read; (iterate 4 rfl); (first | exact vpure | exact vread); decide +kernel) | (apply GT.done; decide +kernel; apply N.ofQ) | (apply GT.adv; rfl) | (apply TL.x; rfl; rfl; (first | exact xgrow | exact xput); intro _ _) | (apply GS.grow; rfl; rfl; (first | exact xgrow); intro _ _) | (apply GS.eff; rfl; decide +kernel; rfl; (first | exact xput); intro _ _) | (apply GT.pureAt 1; (iterate 4 rfl); (first | exact vpure); decide +kernel) | (apply GT.readAt 1; (iterate 4 rfl); (first | exact vpure | exact vread); decide +kernel) | (apply GT.pureAt 2; (iterate 4 rfl); (first | exact vpure); decide +kernel) | (apply GT.readAt 2; (iterate 4 rfl); (first | exact vpure | exact vread); decide +kernel) | (apply GT.pureAt 3; (iterate 4 rfl); (first | exact vpure); decide +kernel) | (apply GT.readAt 3; (iterate 4 rfl); (first | exact vpure | exact vread); decide +kernel) | (apply GT.pureAt 4; (iterate 4 rfl); (first | exact vpure); decide +kernel) | (apply GT.readAt 4; (iterate 4 rfl); (first | exact vpure | exact vread); decide +kernel) | (apply GT.pureAt 5; (iterate 4 rfl); (first | exact vpure); decide +kernel) | (apply GT.readAt 5; (iterate 4 rfl); (first | exact vpure | exact vread); decide +kernel) | (apply GT.pureAt 6; (iterate 4 rfl); (first | exact vpure); decide +kernel) | (apply GT.readAt 6; (iterate 4 rfl); (first | exact vpure | exact vread); decide +kernel) | (apply GT.pureAt 7; (iterate 4 rfl); (first | exact vpure); decide +kernel) | (apply GT.readAt 7; (iterate 4 rfl); (first | exact vpure | exact vread); decide +kernel) | (apply GT.pureAt 8; (iterate 4 rfl); (first | exact vpure); decide +kernel) | (apply GT.readAt 8; (iterate 4 rfl); (first | exact vpure | exact vread); decide +kernel) | (apply GT.pureAt 9; (iterate 4 rfl); (first | exact vpure); decide +kernel) | (apply GT.readAt 9; (iterate 4 rfl); (first | exact vpure | exact vread); decide +kernel) | (apply GT.pureAt 10; (iterate 4 rfl); (first | exact vpure); decide +kernel) | (apply GT.readAt 10; (iterate 4 rfl); (first | exact vpure | exact vread); decide +kernel) | (apply TL.guard; rfl; rfl; rfl; (exact isx); intro _; rotate_left; intro _; rotate_right) | (apply GT.guard; (iterate 4 rfl); (exact isx); intro _; rotate_left; intro _; rotate_right) | (apply GT.fork1; decide +kernel) | (apply GT.fork2 1; decide +kernel) | (apply GT.fork2 2; decide +kernel) | (apply GT.fork2 3; decide +kernel) | (apply GT.fork2 4; decide +kernel) | (apply GT.fork2 5; decide +kernel) | (apply GT.fork2 6; decide +kernel) | (apply GT.fork2 7; decide +kernel) | (apply GT.fork2 8; decide +kernel) | (apply GT.fork2 9; decide +kernel) | (apply GT.fork2 10; decide +kernel) | (apply GT.fork2 11; decide +kernel) | (apply GT.fork2 12; decide +kernel) | (apply GT.fork2 13; decide +kernel) | (apply GT.fork2 14; decide +kernel)))
  all_goals (try contradiction)
  apply N.ret1; rfl; (exact rvx)
  intro w1 hst
  exact ⟨(), trivial, rfl, hst⟩
theorem c_follow3 (hs : St w0 H0 H (fL b12 b11 b8 b7 kn an q keys L) w) (hR : Rules H) (hf : FollowH H f way i b2 b3 b10) (ha : Enc.good H an) (hk : Enc.good H kn) {r : Bool} (hr : matches_ an.set.c kn.c f.at_ f.drift = r) :
    CallsIn (FW none) 0 Tryz.prog 179 #[ptrT b11, ptrT b12, ptrT b2] w (fun e w' => ∃ _g : Unit, True ∧ e = .returned (intV (if r = true then 0 else 31)) ∧ St w0 H0 H (fL b12 b11 b8 b7 kn an q keys L) w') := by
  refine T.enterIn (vs := [ptrT b11, ptrT b12, ptrT b2]) Tryz.func179 rfl rfl rfl hs ?_
  have m2 : H.cells b2 (0 + 5) [intV f.at_] := cells_take (cells_drop hf.fin 5) 1
  have m3 : H.cells b2 (0 + 6) [intV f.drift] := cells_take (cells_drop hf.fin 6) 1
  repeat (any_goals (first | refine T.seq ?_ | refine T.region ?_ | refine TL.nil ?_ | refine N.next ?_ | refine N.inBlock ?_ | refine N.exit_same ?_ | refine N.exit_then ?_ | refine N.ret_then ?_ | refine N.ret_block ?_ | (apply N.exit_other; rfl) | refine T.ret ?_ | refine T.skip ?_ | refine T.exit ?_ | refine T.block ?_ | (apply T.cond_true; rfl) | (apply T.cond_false; rfl) | (apply T.test; rfl; (exact isx); intro _; rotate_left; intro _; rotate_right) | (apply TL.skip; rfl; rfl; rfl) | (apply TL.skip_none; rfl; rfl) | (apply TL.val; rfl; rfl; (apply V.load_H; rfl; rfl; rfl; (first | exact m2 0 _ rfl | exact m3 0 _ rfl))) | (apply TL.callE (f := 180) [.agg (enc an.set).toArray, .agg (enc kn).toArray, intV f.at_, intV f.drift] Tryz.call180; (iterate 4 rfl); (exact fun _ hs => hr ▸ c_trustMatches an.set kn f.at_ f.drift _ _ hs.sat hR ha.1 hk)) | (apply TL.callE (f := 177) [.bool r] Tryz.call177; (iterate 4 rfl); (exact fun _ hs => c_trusted r _ _ hs.sat)) | (apply TL.val; rfl; rfl; (first | exact vpure | exact vread)) | (apply TL.x; rfl; rfl; (first | exact xgrow | exact xput); intro _ _) | (apply TL.guard; rfl; rfl; rfl; (exact isx); intro _; rotate_left; intro _; rotate_right)))
  apply N.ret1; rfl; (exact rvx)
  intro w1 hst
  exact ⟨(), trivial, rfl, hst⟩
end
end Go.Proofs.YtpnoabbdcakjkaaGreatDoor
namespace Go.Proofs.YtpnoabbdcakjkaaGreatDoor
set_option linter.unusedVariables false
set_option linter.unusedSimpArgs false
open Go Go.RowKit
open Enc (enc)
section
variable {P : Program} {b : Frame} {a : Act} {k : List Item} {cs : List Frame} {w : World} {Q : Exit → Act → World → Prop}
theorem stepR_scope {c : Code} : step P (lone (b.atR a (.code (.scope c) :: k)) cs w) = .next (lone (b.atR a (.code c :: .inScope c :: k)) cs w) :=
  step_lone_go (by simp [stepG, stepG.exec, Frame.atR])
theorem stepR_inScope {c : Code} : step P (lone (b.atR a (.inScope c :: k)) cs w) = .next (lone (b.atR a k) cs w) :=
  step_lone_go (by simp [stepG, stepG.exec, Frame.atR])
theorem wpIn_scope {F : Fence} {n : Nat} {c : Code} (h : c.wpIn F n P (Exit.noGoto Q) a w) : (Code.scope c).wpIn F n P Q a w := by
  intro b k cs hro hb hr
  have h0 : (lone (b.atR a (.code (.scope c) :: k)) cs w).fenced P F := fenced_calm hb hr rfl
  obtain ⟨e, a₁, w₁, hq, harr⟩ := h b (.inScope c :: k) cs hro hb hr
  cases e with
  | normal => exact ⟨.normal, a₁, w₁, hq, .head h0 stepR_scope (StepsIn.trans harr (.one (fenced_calm hb hr rfl) stepR_inScope))⟩
  | goto l => exact hq.elim
  | exit id =>
    have hx : exitTo id (.inScope c :: k) = exitTo id k := by simp [exitTo]
    exact ⟨_, a₁, w₁, hq, fun k' hk => .head h0 stepR_scope (harr.1 k' (by rw [hx]; exact hk)),
      fun hr' hk => let ⟨k₁, h1, h2⟩ := harr.2 hr' (by rw [hx]; exact hk); ⟨k₁, h1, .head h0 stepR_scope h2⟩⟩
  | ret => exact ⟨_, a₁, w₁, hq, .of_steps (.one h0 stepR_scope) harr⟩
  | panic ch => exact ⟨_, a₁, w₁, hq, .of_steps (.one h0 stepR_scope) harr⟩
  | outgrown => exact ⟨_, a₁, w₁, hq, .of_steps (.one h0 stepR_scope) harr⟩
end
section
variable {P : Program} {n : FK} {w0 : World} {H0 H : Hp} {Q : Exit → Act → World → Prop} {env : List (Nat × Value)} {L : List Loc}
theorem T.scope {c : Code} (h : T P n w0 H0 c (Exit.noGoto Q) env H L) : T P n w0 H0 (.scope c) Q env H L := ⟨fun a w hf hs => wpIn_scope (h.out a w hf hs)⟩
theorem T.label {l : Nat} (h : N n w0 H0 Q .normal env H L) : T P n w0 H0 (.label l) Q env H L := ⟨fun a w hf hs => wpIn_label (h.out a w hf hs)⟩
theorem N.noGoto {e : Exit} (he : Exit.fine e) (h : N n w0 H0 Q e env H L) : N n w0 H0 (Exit.noGoto Q) e env H L := ⟨fun a w hf hs => by
  have := h.out a w hf hs
  cases e <;> first | exact this | exact he.elim⟩
end
end Go.Proofs.YtpnoabbdcakjkaaGreatDoor
