/- Walks: Asked and Due of the reference (R32). -/
import Derived.Test.YtogcofeencgipaaGreatDoorKNT
import Derived.Test.YtogcofeencgipaaGreatDoorKRH
import Derived.Test.YtogcofeencgipaaGreatDoorZQJ
namespace Go.Proofs.YtogcofeencgipaaGreatDoor
set_option linter.unusedVariables false
set_option linter.unusedSimpArgs false
open Go Go.RowKit
open Enc (enc)
set_option maxRecDepth 20000
section
variable {P : Program} {n : FK} {w0 : World} {H0 H : Hp} {Q : Exit → Act → World → Prop} {env : List (Nat × Value)} {L : List Loc} {ops rest : List Oper} {c : Code} {v : Value} {e : TypeId} {size m : Nat} {xs : List Value}
theorem TL.shape (i : Nat) (hi : L[i]? = some (.row v e size m xs)) (h : ∀ (o : Option Nat) (cp : Nat), v = .slice (o.map fun g => ⟨g, 0, none⟩) m cp → (o = none → m = 0 ∧ cp = 0) → TL P n w0 H0 ops Q rest env H L) : TL P n w0 H0 ops Q rest env H L := ⟨fun a w hf hs => by
  obtain ⟨o, cp, hv, h0⟩ := hs.rowShape (List.mem_of_getElem? hi)
  exact (h o cp hv h0).out a w hf hs⟩
theorem T.shape (i : Nat) (hi : L[i]? = some (.row v e size m xs)) (h : ∀ (o : Option Nat) (cp : Nat), v = .slice (o.map fun g => ⟨g, 0, none⟩) m cp → (o = none → m = 0 ∧ cp = 0) → T P n w0 H0 c Q env H L) : T P n w0 H0 c Q env H L := ⟨fun a w hf hs => by
  obtain ⟨o, cp, hv, h0⟩ := hs.rowShape (List.mem_of_getElem? hi)
  exact (h o cp hv h0).out a w hf hs⟩
end
theorem shape_some {p o : Option Nat} {m c c' : Nat} (hv : Value.slice (p.map fun g => (⟨g, 0, none⟩ : Addr)) m c = .slice (o.map fun g => ⟨g, 0, none⟩) m c') (h0 : o = none → m = 0 ∧ c' = 0) (hm : 0 < m) : ∃ g, p = some g := by
  cases p with
  | some g => exact ⟨g, rfl⟩
  | none =>
    cases o with
    | none => have := (h0 rfl).1; omega
    | some g => simp at hv
theorem c_findRow32 {els : List Use} {w0 w : World} {H0 H : Hp} {L : List Loc} {v : Value} {m : Nat} {k : Int} (x : Question) (hk : indexC (isQ x) els = k) (hs : St w0 H0 H L w) (hm : List.Sublist [.row v 69 3 m (encs els)] L) (hl : els.length = m) (hg : ∀ x ∈ els, Enc.good H x) (hx : Enc.good H x) : Calls Tryz.prog 82 #[v, .agg (enc x).toArray] w (Ret w (intV k)) := by
  obtain ⟨H', s, h1, h2, h3, h4, h5⟩ := (hs.sub hm).freezeRow rfl hl hg
  have := c_find32 s x H' w h5.sat h3 (Enc.mono h4 hx)
  rw [h1, h2, hk] at this
  exact this
theorem asked_no {l : List Use} {q : Question} (h : ¬ (usesOK l = true ∧ questionOK q = true)) : askedC l q = ([], 1) := by
  unfold askedC
  rw [if_pos]
  cases h1 : usesOK l <;> cases h2 : questionOK q <;> first | rfl | exact absurd ⟨h1, h2⟩ h
set_option maxHeartbeats 8000000 in
theorem c_Asked32 (l : Slc Use) (q : Question) (H : Hp) (w : World) (hs : Sat H w) (hg : l.Good H) (hq : Enc.good H q) (hlb : l.len ≤ 1000) : Calls Tryz.prog 30 #[l.v, .agg (enc q).toArray] w (UsesR w H (askedC l.els q)) := by
  have hlen := hg.len
  have hlim := hg.lim
  refine T.enter (vs := [l.v, .agg (enc q).toArray]) (H := H) Tryz.func30 rfl rfl rfl hs ?_
  obtain ⟨v1, h1⟩ : ∃ v, usesOK l.els = v := ⟨_, rfl⟩
  obtain ⟨v2, h2⟩ : ∃ v, questionOK q = v := ⟨_, rfl⟩
  by_cases hv : v1 = true ∧ v2 = true
  · obtain ⟨rfl, rfl⟩ := hv
    have hl4 : l.len ≤ 400 := by
      have h := h1; unfold usesOK at h; simp only [Bool.and_eq_true, decide_eq_true_eq] at h; omega
    have hnd : (l.els.map Use.q).Nodup := by
      have h := h1; unfold usesOK at h; simp only [Bool.and_eq_true, decide_eq_true_eq] at h; exact h.2
    have he0 : ([] ++ encs l.els : List Value) = encs l.els := rfl
    refine T.nilRow 69 3 ?_
    obtain ⟨hI, hno⟩ | ⟨k, hk, hI, hkp, hkb⟩ := indexC_cases (isQ q) l.els
    · have hany : l.els.any (isQ q) = false := List.any_eq_false.2 fun u hu => by rw [hno u hu]; decide
      by_cases h400 : l.len = 400
      · have he : askedC l.els q = ([], 41) := by unfold askedC; rw [h1, h2, hany, hlen, if_pos h400]; rfl
        rw [he]
        repeat (any_goals (first | refine T.seq ?_ | refine T.region ?_ | refine TL.nil ?_ | refine N.next ?_ | refine N.inBlock ?_ | refine N.exit_same ?_ | refine N.exit_then ?_ | refine N.ret_then ?_ | refine N.ret_block ?_ | (apply N.exit_other; rfl) | refine T.ret ?_ | refine T.skip ?_ | refine T.exit ?_ | refine T.block ?_ | (apply T.cond_true; rfl) | (apply T.cond_false; rfl) | (apply T.test; rfl; (exact visX); intro _; rotate_left; intro _; rotate_right) | (apply TL.skip; rfl; rfl; rfl) | (apply TL.skip_none; rfl; rfl) | (apply TL.x; rfl; rfl; (apply X.box (d := 3); rfl; rfl; rfl); intro b3 _) | (apply TL.callE (f := 38) [l.v] Tryz.call38; rfl; rfl; rfl; rfl; (exact fun _ hs => h1 ▸ c_Uses32 l _ _ hs.sat hg)) | (apply TL.callE (f := 39) [.agg (enc q).toArray] Tryz.call39; rfl; rfl; rfl; rfl; (exact fun _ hs => h2 ▸ c_Question06 q _ _ hs.sat hq)) | (apply TL.x; rfl; rfl; (apply X.appendSlcS 1 l; (iterate 10 rfl); exact hg; (refine Nat.le_trans (Nat.mul_le_mul_right _ (show _ ≤ 1000 by omega)) ?_; decide); omega); intro po _) | (apply TL.call0 (f := 82) Tryz.call82; rfl; rfl; rfl; (exact fun _ hs => c_findRow32 (els := l.els) (m := 0 + l.len) q hI hs (by exact vsubX) (by omega) hg.els hq)) | (apply TL.val; rfl; rfl; (first | exact vpure | exact vread)) | (apply TL.x; rfl; rfl; (first | exact xgrow | exact xput); intro _ _) | (apply TL.guard; rfl; rfl; rfl; (exact visX); intro _; rotate_left; intro _; rotate_right)))
        all_goals (try contradiction)
        all_goals (try (exfalso; omega))
        exact N.ret2 rfl (by (exact rvx)) (by (exact rvx)) fun w hst => ⟨(H, Slc.nil _), ⟨rfl, Slc.nil_good⟩, rfl, hst.fresh⟩
      · have he : askedC l.els q = (l.els ++ [⟨q, 1⟩], 0) := by unfold askedC; rw [h1, h2, hany, hlen, if_neg h400]; rfl
        rw [he]
        repeat (any_goals (first | refine T.seq ?_ | refine T.region ?_ | refine TL.nil ?_ | refine N.next ?_ | refine N.inBlock ?_ | refine N.exit_same ?_ | refine N.exit_then ?_ | refine N.ret_then ?_ | refine N.ret_block ?_ | (apply N.exit_other; rfl) | refine T.ret ?_ | refine T.skip ?_ | refine T.exit ?_ | refine T.block ?_ | (apply T.cond_true; rfl) | (apply T.cond_false; rfl) | (apply T.test; rfl; (exact visX); intro _; rotate_left; intro _; rotate_right) | (apply TL.skip; rfl; rfl; rfl) | (apply TL.skip_none; rfl; rfl) | (apply TL.x; rfl; rfl; (apply X.box (d := 3); rfl; rfl; rfl); intro b3 _) | (apply TL.callE (f := 38) [l.v] Tryz.call38; rfl; rfl; rfl; rfl; (exact fun _ hs => h1 ▸ c_Uses32 l _ _ hs.sat hg)) | (apply TL.callE (f := 39) [.agg (enc q).toArray] Tryz.call39; rfl; rfl; rfl; rfl; (exact fun _ hs => h2 ▸ c_Question06 q _ _ hs.sat hq)) | (apply TL.x; rfl; rfl; (apply X.appendSlcS 1 l; (iterate 10 rfl); exact hg; (refine Nat.le_trans (Nat.mul_le_mul_right _ (show _ ≤ 1000 by omega)) ?_; decide); omega); intro po _) | (apply TL.call0 (f := 82) Tryz.call82; rfl; rfl; rfl; (exact fun _ hs => c_findRow32 (els := l.els) (m := 0 + l.len) q hI hs (by exact vsubX) (by omega) hg.els hq)) | (apply TL.val; rfl; rfl; (apply V.build; (iterate 6 rfl))) | (apply TL.x; rfl; rfl; (apply X.buildSlice1 (d := 42); (iterate 8 rfl)); intro b42 _) | (apply TL.x; rfl; rfl; (apply X.append1 2; (iterate 9 rfl); exact List.Mem.head _; rfl; rfl; rfl; (refine Nat.le_trans (Nat.mul_le_mul_right _ (show _ ≤ 1000 by omega)) ?_; decide); omega); intro pa _) | (apply TL.val; rfl; rfl; (first | exact vpure | exact vread)) | (apply TL.x; rfl; rfl; (first | exact xgrow | exact xput); intro _ _) | (apply TL.guard; rfl; rfl; rfl; (exact visX); intro _; rotate_left; intro _; rotate_right)))
        all_goals (try contradiction)
        all_goals (try (exfalso; omega))
        refine N.ret2 rfl (by (exact rvx)) (by (exact rvx)) fun w hst => ?_
        refine uses_end (n := 0 + l.len + 1) (els := l.els ++ [⟨q, 1⟩]) hst ?_ (by rw [List.length_append, hlen, List.length_singleton]; omega) ?_ rfl
        · rw [encs_snoc]
          (repeat (first | exact List.Sublist.refl _ | exact List.nil_sublist _ | apply List.Sublist.cons_cons | apply List.Sublist.cons))
        · intro x hx
          rcases List.mem_append.1 hx with h | h
          · exact hg.els x h
          · rw [List.mem_singleton.1 h]; exact ⟨hq, by show I64 1; decide⟩
    · have hany : l.els.any (isQ q) = true := List.any_eq_true.2 ⟨_, List.getElem_mem hk, hkp⟩
      have he : askedC l.els q = (l.els.set k (bump (l.els[k]'hk)), 0) := by unfold askedC; rw [h1, h2, hany, set_bump hk hkp hnd]; rfl
      rw [he]
      have hkl : k < l.len := by omega
      have hx := hg.els _ (List.getElem_mem hk)
      have hxo : useOK (l.els[k]'hk) = true := by
        have h := h1; unfold usesOK at h; simp only [Bool.and_eq_true, List.all_eq_true] at h; exact h.1.2 _ (List.getElem_mem hk)
      have hxt : 1 ≤ (l.els[k]'hk).times ∧ (l.els[k]'hk).times ≤ 1000000 := by
        unfold useOK at hxo; rw [Bool.and_eq_true, decide_eq_true_eq] at hxo; exact hxo.2
      have hke : l.els[k]? = some (l.els[k]'hk) := List.getElem?_eq_getElem hk
      have hmn : (if (l.els[k]'hk).times + 1 < 1000000 then (l.els[k]'hk).times + 1 else 1000000) = (bump (l.els[k]'hk)).times := by
        show _ = minI ((l.els[k]'hk).times + 1) 1000000
        unfold minI; split <;> split <;> omega
      repeat (any_goals (first | refine T.seq ?_ | refine T.region ?_ | refine TL.nil ?_ | refine N.next ?_ | refine N.inBlock ?_ | refine N.exit_same ?_ | refine N.exit_then ?_ | refine N.ret_then ?_ | refine N.ret_block ?_ | (apply N.exit_other; rfl) | refine T.ret ?_ | refine T.skip ?_ | refine T.exit ?_ | refine T.block ?_ | (apply T.cond_true; rfl) | (apply T.cond_false; rfl) | (apply T.test; rfl; (exact visX); intro _; rotate_left; intro _; rotate_right) | (apply TL.skip; rfl; rfl; rfl) | (apply TL.skip_none; rfl; rfl) | (apply TL.x; rfl; rfl; (apply X.box (d := 3); rfl; rfl; rfl); intro b3 _) | (apply TL.callE (f := 38) [l.v] Tryz.call38; rfl; rfl; rfl; rfl; (exact fun _ hs => h1 ▸ c_Uses32 l _ _ hs.sat hg)) | (apply TL.callE (f := 39) [.agg (enc q).toArray] Tryz.call39; rfl; rfl; rfl; rfl; (exact fun _ hs => h2 ▸ c_Question06 q _ _ hs.sat hq)) | (apply TL.x; rfl; rfl; (apply X.appendSlcS 1 l; (iterate 10 rfl); exact hg; (refine Nat.le_trans (Nat.mul_le_mul_right _ (show _ ≤ 1000 by omega)) ?_; decide); omega); rintro ⟨po, pc⟩ _; apply TL.shape 1; rfl; intro o cp hv h0; obtain ⟨gb, rfl⟩ := shape_some hv h0 (by omega)) | (apply TL.call0 (f := 82) Tryz.call82; rfl; rfl; rfl; (exact fun _ hs => c_findRow32 (els := l.els) (m := 0 + l.len) q hI hs (by exact vsubX) (by omega) hg.els hq)) | (apply TL.val; rfl; rfl; (apply V.elem (j := k); (iterate 6 rfl); omega; rfl)) | (apply TL.val; rfl; rfl; (apply V.load_own; rfl; rfl; rfl; (exact lmem); exact encs_atQ (j := 2) hke rfl (by show 0 + k * 3 + 2 = k * 3 + 2; omega))) | (apply TL.val; rfl; rfl; (apply V.min (M := (bump (l.els[k]'hk)).times) hmn; rfl; rfl)) | (apply TL.x; rfl; rfl; (exact X.storeRowE 1 (vs := [intV (bump (l.els[k]'hk)).times]) rfl rfl rfl rfl rfl rfl rfl (by show 0 + k * 3 + 2 + 1 ≤ (0 + l.len) * 3; omega) (encs_put (j := 2) (y := bump (l.els[k]'hk)) hke (by show 2 + 1 ≤ 3; omega) rfl (by show 0 + k * 3 + 2 = k * 3 + 2; omega))); intro _ _) | (apply GS.eff; rfl; decide +kernel; rfl; (exact X.storeRowE 1 (vs := [intV (bump (l.els[k]'hk)).times]) rfl rfl rfl rfl rfl rfl rfl (by show 0 + k * 3 + 2 + 1 ≤ (0 + l.len) * 3; omega) (encs_put (j := 2) (y := bump (l.els[k]'hk)) hke (by show 2 + 1 ≤ 3; omega) rfl (by show 0 + k * 3 + 2 = k * 3 + 2; omega))); intro _ _) | (apply TL.val; rfl; rfl; (first | exact vpure | exact vread)) | (apply TL.x; rfl; rfl; (first | exact xgrow | exact xput); intro _ _) | (apply TL.guard; rfl; rfl; rfl; (exact visX); intro _; rotate_left; intro _; rotate_right)))
      all_goals (try contradiction)
      all_goals (try (exfalso; omega))
      refine N.ret2 rfl (by (exact rvx)) (by (exact rvx)) fun w hst => ?_
      refine uses_end (n := 0 + l.len) (els := l.els.set k (bump (l.els[k]'hk))) hst (by exact vsubX) (by rw [List.length_set, hlen]; omega) ?_ rfl
      intro x hx
      rcases List.mem_or_eq_of_mem_set hx with h | h
      · exact hg.els x h
      · rw [h]
        exact ⟨(hg.els _ (List.getElem_mem hk)).1, by show I64 (minI _ _); unfold minI; split <;> (constructor <;> omega)⟩
  · have he : askedC l.els q = ([], 1) := asked_no (by rw [h1, h2]; exact hv)
    rw [he]
    repeat (any_goals (first | refine T.seq ?_ | refine T.region ?_ | refine TL.nil ?_ | refine N.next ?_ | refine N.inBlock ?_ | refine N.exit_same ?_ | refine N.exit_then ?_ | refine N.ret_then ?_ | refine N.ret_block ?_ | (apply N.exit_other; rfl) | refine T.ret ?_ | refine T.skip ?_ | refine T.exit ?_ | refine T.block ?_ | (apply T.cond_true; rfl) | (apply T.cond_false; rfl) | (apply T.test; rfl; (exact visX); intro _; rotate_left; intro _; rotate_right) | (apply TL.skip; rfl; rfl; rfl) | (apply TL.skip_none; rfl; rfl) | (apply TL.x; rfl; rfl; (apply X.box (d := 3); rfl; rfl; rfl); intro b3 _) | (apply TL.callE (f := 38) [l.v] Tryz.call38; rfl; rfl; rfl; rfl; (exact fun _ hs => h1 ▸ c_Uses32 l _ _ hs.sat hg)) | (apply TL.callE (f := 39) [.agg (enc q).toArray] Tryz.call39; rfl; rfl; rfl; rfl; (exact fun _ hs => h2 ▸ c_Question06 q _ _ hs.sat hq)) | (apply TL.val; rfl; rfl; (first | exact vpure | exact vread)) | (apply TL.x; rfl; rfl; (first | exact xgrow | exact xput); intro _ _) | (apply TL.guard; rfl; rfl; rfl; (exact visX); intro _; rotate_left; intro _; rotate_right)))
    all_goals first
      | exact N.ret2 rfl (by (exact rvx)) (by (exact rvx)) fun w hst => ⟨(H, Slc.nil _), ⟨rfl, Slc.nil_good⟩, rfl, hst.fresh⟩
      | (exfalso; exact hv ⟨by assumption, by assumption⟩)
theorem times_at {l : List Use} {q : Question} {k : Nat} (hk : k < l.length) (hp : isQ q l[k] = true) (hb : ∀ j (hj : j < l.length), j < k → isQ q l[j] = false) : timesOf l q = some (l[k]).times := by
  unfold timesOf
  rw [show l.find? (fun u => decide (u.q = q)) = some l[k] from find_at (p := isQ q) hk hp hb]; rfl
theorem times_no {l : List Use} {q : Question} (h : ∀ x ∈ l, isQ q x = false) : timesOf l q = none := by
  unfold timesOf
  rw [show l.find? (fun u => decide (u.q = q)) = none from find_no (p := isQ q) h]; rfl
theorem mem_upQ {l : List Question} {k : Nat} {x q : Question} (h : l[k]? = some x) : decide (q ∈ l.take (k + 1)) = (decide (q ∈ l.take k) || decide (x = q)) := by
  rw [List.take_add_one, h, Bool.eq_iff_iff]
  simp only [Bool.or_eq_true, decide_eq_true_eq, List.mem_append, Option.toList_some, List.mem_singleton]
  exact or_congr_right eq_comm
set_option maxHeartbeats 16000000 in
theorem c_Due32 (c : Cache) (uses : Slc Use) (now early often : Int) (H : Hp) (w : World) (hs : Sat H w) (hg : Enc.good H c) (hu : uses.Good H) : Calls Tryz.prog 28 #[.agg (enc c).toArray, uses.v, intV now, intV early, intV often] w (QsR w H (dueC c.c uses.els now early often)) := by
  have hlen := hu.len
  have hlim := hu.lim
  refine T.enter (vs := [.agg (enc c).toArray, uses.v, intV now, intV early, intV often]) (H := H) Tryz.func28 rfl rfl rfl hs ?_
  obtain ⟨v1, h1⟩ : ∃ v, cacheOK c.c = v := ⟨_, rfl⟩
  obtain ⟨v2, h2⟩ : ∃ v, usesOK uses.els = v := ⟨_, rfl⟩
  obtain ⟨v3, h3⟩ : ∃ v, isT now = v := ⟨_, rfl⟩
  by_cases hv : v1 = true ∧ v2 = true ∧ v3 = true ∧ (0 ≤ early ∧ early ≤ 1000000 ∧ 0 ≤ often ∧ often ≤ 1000000)
  · obtain ⟨rfl, rfl, rfl, b3, b4, b5, b6⟩ := hv
    have hT : 0 ≤ now ∧ now ≤ 20000000 := of_decide_eq_true h3
    have he : dueC c.c uses.els now early often = (dueL uses.els now early often c.c, 0) := due_yes h2 h1 hT ⟨b3, b4⟩ ⟨b5, b6⟩
    rw [he]
    have hcl := cache_len hg h1
    have g8 : c.list.Good H := hg
    have hcn : c.list.els.length = c.list.len := g8.len
    have hcm := g8.lim
    have hu4 : uses.len ≤ 400 := by
      have h := h2; unfold usesOK at h; simp only [Bool.and_eq_true, decide_eq_true_eq] at h; omega
    repeat (any_goals (first | refine T.seq ?_ | refine T.region ?_ | (apply T.regionD wide; rfl) | refine TL.nil ?_ | refine N.next ?_ | refine N.inBlock ?_ | refine N.exit_same ?_ | refine N.exit_then ?_ | refine N.ret_then ?_ | refine N.ret_block ?_ | (apply N.exit_other; rfl) | refine T.ret ?_ | refine T.skip ?_ | refine T.exit ?_ | refine T.block ?_ | (apply T.cond_true; rfl) | (apply T.cond_false; rfl) | (apply T.test; rfl; (exact visX); intro _; rotate_left; intro _; rotate_right) | (apply TL.skip; rfl; rfl; rfl) | (apply TL.skip_none; rfl; rfl) | (apply GT.skip; rfl; rfl; rfl; decide +kernel) | (apply TL.x; rfl; rfl; (apply X.box (d := 5); rfl; rfl; rfl); intro b5' _) | (apply TL.callE (f := 80) [.agg (enc c).toArray] Tryz.call80; rfl; rfl; rfl; rfl; (exact fun _ hs => h1 ▸ c_Valid22 c _ _ hs.sat hg)) | (apply TL.callE (f := 38) [uses.v] Tryz.call38; rfl; rfl; rfl; rfl; (exact fun _ hs => h2 ▸ c_Uses32 uses _ _ hs.sat hu)) | (apply TL.callE (f := 81) [intV now] Tryz.call81; rfl; rfl; rfl; rfl; (exact fun _ hs => c_Time22B h3 hs.sat)) | (apply TL.val; rfl; rfl; (first | exact vpure | exact vread)) | (apply GT.pure; rfl; rfl; rfl; rfl; exact vpure; decide +kernel) | (apply GT.read; rfl; rfl; rfl; rfl; (first | exact vpure | exact vread); decide +kernel) | (apply GT.done; decide +kernel; apply N.ofQ) | (apply GT.adv; rfl) | (apply TL.x; rfl; rfl; (first | exact xgrow | exact xput); intro _ _) | (apply GS.grow; rfl; rfl; exact xgrow; intro _ _) | (apply GS.eff; rfl; decide +kernel; rfl; exact xput; intro _ _) | (apply TL.guard; rfl; rfl; rfl; (exact visX); intro _; rotate_left; intro _; rotate_right) | (apply GT.guard; rfl; rfl; rfl; rfl; (exact visX); intro _; rotate_left; intro _; rotate_right) | (apply GT.fork1; decide +kernel)))
    all_goals (try contradiction)
    all_goals (try (exfalso; omega))
    refine T.nilRow 23 2 ?_
    refine T.loop (G := List Question × Value × Nat) (fun g => [(1, uses.v), (2, intV now), (3, intV early), (4, intV often), (5, .pointer (some ⟨b5', 0, none⟩)), (11, intV 0), (12, g.2.1), (13, intV g.2.2)]) (fun _ => H) (fun g => [.row g.2.1 23 2 g.1.length (encs g.1), .blk b5' 46 (enc c)]) (fun g => g.2.2 ≤ c.list.len ∧ g.1.length ≤ g.2.2 ∧ (∀ x ∈ g.1, Enc.good H x) ∧ g.1 = (c.c.take g.2.2).foldl (dueStep uses.els now early often) []) (fun g => c.list.len - g.2.2) ([], .slice none 0 0, 0) ⟨Nat.zero_le _, Nat.le_refl _, by simp, by simp⟩ (by exact vsub0) rfl (by exact vsubX) ?_
    rintro ⟨ys, yv, i⟩ ⟨hi, hyl, hyg, hys⟩
    simp only at hi hyl hyg hys ⊢
    by_cases hlt : i < c.list.len
    · have hk2 : i < c.list.els.length := by omega
      have hx := g8.els _ (List.getElem_mem hk2)
      have hE : c.c.take (i + 1) = c.c.take i ++ [(c.list.els[i]'hk2).c] := by
        show (c.list.els.map Entry.c).take (i + 1) = (c.list.els.map Entry.c).take i ++ _
        rw [List.take_add_one, List.getElem?_map, List.getElem?_eq_getElem hk2]; rfl
      generalize hee : c.list.els[i]'hk2 = e at hE hx
      have hEn : enc (c.list.els[i]'hk2) = enc e := by rw [hee]
      have hqe : Enc.good H (qOf e.c) := ⟨hx.1.1.1, hx.1.1.2.1⟩
      have hst : ∀ b : Bool, (dueE uses.els now early often e.c && !decide (qOf e.c ∈ ys)) = b → (c.c.take (i + 1)).foldl (dueStep uses.els now early often) [] = if b then ys ++ [qOf e.c] else ys := fun b hb => by
        rw [hE, List.foldl_append, ← hys, List.foldl_cons, List.foldl_nil]
        unfold dueStep; rw [hb]
      obtain ⟨dn, hdn⟩ : ∃ v, denial e.c = v := ⟨_, rfl⟩
      obtain ⟨ix, hix⟩ : ∃ v, indexC (isQ (qOf e.c)) uses.els = v := ⟨_, rfl⟩
      have hcases := indexC_cases (isQ (qOf e.c)) uses.els
      rw [hix] at hcases
      refine T.shape 0 rfl fun o cp hv0 h0 => ?_
      subst hv0
      repeat (any_goals (first | refine T.seq ?_ | refine T.region ?_ | (apply T.regionD wide; rfl) | refine TL.nil ?_ | refine N.next ?_ | refine N.inBlock ?_ | refine N.exit_same ?_ | refine N.exit_then ?_ | refine N.ret_then ?_ | refine N.ret_block ?_ | (apply N.exit_other; rfl) | refine T.ret ?_ | refine T.skip ?_ | refine T.exit ?_ | refine T.block ?_ | (apply T.cond_true; rfl) | (apply T.cond_false; rfl) | (apply T.test; rfl; (exact visX); intro _; rotate_left; intro _; rotate_right) | (apply TL.skip; rfl; rfl; rfl) | (apply TL.skip_none; rfl; rfl) | (apply GT.skip; rfl; rfl; rfl; decide +kernel) | (apply TL.x; rfl; rfl; (apply X.storeTo 0 (enc e); (iterate 8 rfl); exact hEn; rfl); intro _ _) | (apply TL.x; rfl; rfl; (apply X.alloc (d := 14); rfl; rfl; rfl); intro b14 _) | (apply TL.x; rfl; rfl; (apply X.alloc (d := 15); rfl; rfl; rfl); intro b15 _) | (apply TL.val; rfl; rfl; (apply V.build; (iterate 6 rfl))) | (apply GT.pure; rfl; rfl; rfl; rfl; (apply V.build; (iterate 6 rfl)); decide +kernel) | (apply TL.x; rfl; rfl; (apply X.storeTo 0 (enc (qOf e.c)); (iterate 10 rfl)); intro _ _) | (apply GS.eff; rfl; decide +kernel; rfl; (apply X.storeTo 0 (enc (qOf e.c)); (iterate 10 rfl)); intro _ _) | (apply TL.callE (f := 82) [uses.v, .agg (enc (qOf e.c)).toArray] Tryz.call82; rfl; rfl; rfl; rfl; (exact fun _ hs => hix ▸ c_find32 uses (qOf e.c) _ _ hs.sat hu hqe)) | (apply TL.val; rfl; rfl; (first | exact vpure | exact vread)) | (apply GT.pure; rfl; rfl; rfl; rfl; exact vpure; decide +kernel) | (apply GT.read; rfl; rfl; rfl; rfl; (first | exact vpure | exact vread); decide +kernel) | (apply GT.done; decide +kernel; apply N.ofQ) | (apply GT.adv; rfl) | (apply TL.x; rfl; rfl; (first | exact xgrow | exact xput); intro _ _) | (apply GS.grow; rfl; rfl; exact xgrow; intro _ _) | (apply GS.eff; rfl; decide +kernel; rfl; exact xput; intro _ _) | (apply TL.guard; rfl; rfl; rfl; (exact visX); intro _; rotate_left; intro _; rotate_right) | (apply GT.guard; rfl; rfl; rfl; rfl; (exact visX); intro _; rotate_left; intro _; rotate_right) | (apply GT.fork1; decide +kernel)))
      all_goals (try (exfalso; omega))
      refine T.loop (G := Nat) (fun n => [(1, uses.v), (2, intV now), (3, intV early), (4, intV often), (5, .pointer (some ⟨b5', 0, none⟩)), (11, intV 0), (12, .slice (o.map fun g => ⟨g, 0, none⟩) ys.length cp), (13, intV i), (14, .pointer (some ⟨b14, 0, none⟩)), (15, .pointer (some ⟨b15, 0, none⟩)), (16, intV ix), (17, .bool (decide (qOf e.c ∈ ys.take n))), (18, intV n)]) (fun _ => H) (fun _ => [.blk b15 23 (enc (qOf e.c)), .blk b14 67 (enc e), .row (.slice (o.map fun g => ⟨g, 0, none⟩) ys.length cp) 23 2 ys.length (encs ys), .blk b5' 46 (enc c)]) (fun n => n ≤ ys.length) (fun n => ys.length - n) 0 (Nat.zero_le _) (by exact vsub0) rfl (by exact vsubX) ?_
      intro n hn
      by_cases hln : n < ys.length
      · have hup := mem_upQ (q := qOf e.c) (List.getElem?_eq_getElem hln)
        have hyn : ys[n]? = some (ys[n]'hln) := List.getElem?_eq_getElem hln
        obtain ⟨g, rfl⟩ : ∃ g, o = some g := by
          cases o with
          | some g => exact ⟨g, rfl⟩
          | none => have := (h0 rfl).1; omega
        generalize hmb : decide (qOf e.c ∈ ys.take n) = mb at hup
        generalize hye : ys[n]'hln = yn at hup hyn
        repeat (any_goals (first | refine T.seq ?_ | refine T.region ?_ | (apply T.regionD wide; rfl) | refine TL.nil ?_ | refine N.next ?_ | refine N.inBlock ?_ | refine N.exit_same ?_ | refine N.exit_then ?_ | refine N.ret_then ?_ | refine N.ret_block ?_ | (apply N.exit_other; rfl) | refine T.ret ?_ | refine T.skip ?_ | refine T.exit ?_ | refine T.block ?_ | (apply T.cond_true; rfl) | (apply T.cond_false; rfl) | (apply T.test; rfl; (exact visX); intro _; rotate_left; intro _; rotate_right) | (apply TL.skip; rfl; rfl; rfl) | (apply TL.skip_none; rfl; rfl) | (apply GT.skip; rfl; rfl; rfl; decide +kernel) | (apply TL.val; rfl; rfl; (apply V.elem (j := n); (iterate 6 rfl); exact hln; rfl)) | (apply GT.pure; rfl; rfl; rfl; rfl; (apply V.elem (j := n); (iterate 6 rfl); exact hln; rfl); decide +kernel) | (apply TL.val; rfl; rfl; (apply V.load_own_row; rfl; rfl; rfl; (exact lmem); exact encs_rowat hyn (by show 0 + n * 2 = n * 2; omega); rfl)) | (apply GT.read; rfl; rfl; rfl; rfl; (apply V.load_own_row; rfl; rfl; rfl; (exact lmem); exact encs_rowat hyn (by show 0 + n * 2 = n * 2; omega); rfl); decide +kernel) | (apply TL.val; rfl; rfl; (apply V.aeql (e := decide (yn = qOf e.c)); rfl; rfl; exact Tryz.eqGuardType23; exact fun w => eq_Question yn (qOf e.c) w)) | (apply GT.pure; rfl; rfl; rfl; rfl; (apply V.aeql (e := decide (yn = qOf e.c)); rfl; rfl; exact Tryz.eqGuardType23; exact fun w => eq_Question yn (qOf e.c) w); decide +kernel) | (apply TL.val; rfl; rfl; (first | exact vpure | exact vread)) | (apply GT.pure; rfl; rfl; rfl; rfl; exact vpure; decide +kernel) | (apply GT.read; rfl; rfl; rfl; rfl; (first | exact vpure | exact vread); decide +kernel) | (apply GT.done; decide +kernel; apply N.ofQ) | (apply GT.adv; rfl) | (apply TL.x; rfl; rfl; (first | exact xgrow | exact xput); intro _ _) | (apply GS.grow; rfl; rfl; exact xgrow; intro _ _) | (apply GS.eff; rfl; decide +kernel; rfl; exact xput; intro _ _) | (apply TL.guard; rfl; rfl; rfl; (exact visX); intro _; rotate_left; intro _; rotate_right) | (apply GT.guard; rfl; rfl; rfl; rfl; (exact visX); intro _; rotate_left; intro _; rotate_right) | (apply GT.fork1; decide +kernel)))
        all_goals (try (exfalso; omega))
        all_goals first
          | (have hm1 : mb = true := by assumption
             subst hm1
             rw [Bool.true_or] at hup
             refine N.round (n + 1) (by show n + 1 ≤ _; omega) (by show ys.length - (n + 1) < ys.length - n; omega) ?_ rfl (by exact vsubX)
             simp only [hup]
             (repeat (first | exact True.intro | refine ⟨rfl, ?_⟩ | refine Sub.int rfl (by omega) ?_))
             done)
          | (have hm1 : mb = false := by assumption
             subst hm1
             rw [Bool.false_or] at hup
             refine N.round (n + 1) (by show n + 1 ≤ _; omega) (by show ys.length - (n + 1) < ys.length - n; omega) ?_ rfl (by exact vsubX)
             simp only [hup]
             (repeat (first | exact True.intro | refine ⟨rfl, ?_⟩ | refine Sub.int rfl (by omega) ?_))
             done)
          | trace_state
      · have hne : n = ys.length := by omega
        subst hne
        rw [List.take_length]
        obtain ⟨mb, hmb⟩ : ∃ mb, decide (qOf e.c ∈ ys) = mb := ⟨_, rfl⟩
        rw [hmb]
        rcases hcases with ⟨hI, hno⟩ | ⟨kk, hkk, hI, hkp, hkb⟩
        · have hdue : dueE uses.els now early often e.c = false := by
            unfold dueE; rw [times_no hno, Bool.and_false]
          have hb := hst false (by rw [hdue]; rfl)
          subst hI
          repeat (any_goals (first | refine T.seq ?_ | refine T.region ?_ | (apply T.regionD wide; rfl) | refine TL.nil ?_ | refine N.next ?_ | refine N.inBlock ?_ | refine N.exit_same ?_ | refine N.exit_then ?_ | refine N.ret_then ?_ | refine N.ret_block ?_ | (apply N.exit_other; rfl) | refine T.ret ?_ | refine T.skip ?_ | refine T.exit ?_ | refine T.block ?_ | (apply T.cond_true; rfl) | (apply T.cond_false; rfl) | (apply T.test; rfl; (exact visX); intro _; rotate_left; intro _; rotate_right) | (apply TL.skip; rfl; rfl; rfl) | (apply TL.skip_none; rfl; rfl) | (apply GT.skip; rfl; rfl; rfl; decide +kernel) | (apply TL.callE (f := 36) [.agg (enc e).toArray] Tryz.call36; rfl; rfl; rfl; rfl; (exact fun _ hs => hdn ▸ c_Denial e _ _ hs.sat hx)) | (apply TL.val; rfl; rfl; (first | exact vpure | exact vread)) | (apply GT.pure; rfl; rfl; rfl; rfl; exact vpure; decide +kernel) | (apply GT.read; rfl; rfl; rfl; rfl; (first | exact vpure | exact vread); decide +kernel) | (apply GT.done; decide +kernel; apply N.ofQ) | (apply GT.adv; rfl) | (apply TL.x; rfl; rfl; (first | exact xgrow | exact xput); intro _ _) | (apply GS.grow; rfl; rfl; exact xgrow; intro _ _) | (apply GS.eff; rfl; decide +kernel; rfl; exact xput; intro _ _) | (apply TL.guard; rfl; rfl; rfl; (exact visX); intro _; rotate_left; intro _; rotate_right) | (apply GT.guard; rfl; rfl; rfl; rfl; (exact visX); intro _; rotate_left; intro _; rotate_right) | (apply GT.fork1; decide +kernel)))
          all_goals (try (exfalso; omega))
          all_goals first
            | exact N.round (ys, _, i + 1) ⟨by show i + 1 ≤ _; omega, by show ys.length ≤ i + 1; omega, hyg, (hb.trans (if_neg (by decide))).symm⟩ (by show c.list.len - (i + 1) < c.list.len - i; omega) (by exact vsub0) rfl (by exact vsubX)
            | trace_state
        · have hdue : dueE uses.els now early often e.c = (!dn && decide (now < e.til) && !decide (now + early < e.til) && decide (often ≤ (uses.els[kk]'hkk).times)) := by
            unfold dueE; rw [times_at hkk hkp hkb, hdn]; rfl
          subst hI
          have hkl : kk < uses.len := by omega
          repeat (any_goals (first | refine T.seq ?_ | refine T.region ?_ | (apply T.regionD wide; rfl) | refine TL.nil ?_ | refine N.next ?_ | refine N.inBlock ?_ | refine N.exit_same ?_ | refine N.exit_then ?_ | refine N.ret_then ?_ | refine N.ret_block ?_ | (apply N.exit_other; rfl) | refine T.ret ?_ | refine T.skip ?_ | refine T.exit ?_ | refine T.block ?_ | (apply T.cond_true; rfl) | (apply T.cond_false; rfl) | (apply T.test; rfl; (exact visX); intro _; rotate_left; intro _; rotate_right) | (apply TL.skip; rfl; rfl; rfl) | (apply TL.skip_none; rfl; rfl) | (apply GT.skip; rfl; rfl; rfl; decide +kernel) | (apply TL.callE (f := 36) [.agg (enc e).toArray] Tryz.call36; rfl; rfl; rfl; rfl; (exact fun _ hs => hdn ▸ c_Denial e _ _ hs.sat hx)) | (apply TL.val; rfl; rfl; (apply V.elem (j := kk); (iterate 6 rfl); exact hkl; exact hu.at_ hkl)) | (apply GT.pure; rfl; rfl; rfl; rfl; (apply V.elem (j := kk); (iterate 6 rfl); exact hkl; exact hu.at_ hkl); decide +kernel) | (apply TL.val; rfl; rfl; (apply V.load_H; rfl; rfl; rfl; exact hu.cell (j := 2) hkl rfl)) | (apply GT.read; rfl; rfl; rfl; rfl; (apply V.load_H; rfl; rfl; rfl; exact hu.cell (j := 2) hkl rfl); decide +kernel) | (apply TL.x; rfl; rfl; (apply X.buildSlice1 (d := 123) (cs := enc (qOf e.c)); (iterate 8 rfl)); intro b123 _) | (apply TL.x; rfl; rfl; (apply X.append1 3; (iterate 9 rfl); exact List.Mem.head _; rfl; rfl; rfl; (refine Nat.le_trans (Nat.mul_le_mul_right _ (show _ ≤ 1000 by omega)) ?_; decide); omega); intro pa _) | (apply TL.val; rfl; rfl; (first | exact vpure | exact vread)) | (apply GT.pure; rfl; rfl; rfl; rfl; exact vpure; decide +kernel) | (apply GT.read; rfl; rfl; rfl; rfl; (first | exact vpure | exact vread); decide +kernel) | (apply GT.done; decide +kernel; apply N.ofQ) | (apply GT.adv; rfl) | (apply TL.x; rfl; rfl; (first | exact xgrow | exact xput); intro _ _) | (apply GS.grow; rfl; rfl; exact xgrow; intro _ _) | (apply GS.eff; rfl; decide +kernel; rfl; exact xput; intro _ _) | (apply TL.guard; rfl; rfl; rfl; (exact visX); intro _; rotate_left; intro _; rotate_right) | (apply GT.guard; rfl; rfl; rfl; rfl; (exact visX); intro _; rotate_left; intro _; rotate_right) | (apply GT.fork1; decide +kernel)))
          all_goals (try (exfalso; omega))
          all_goals first
            | (have hb : (dueE uses.els now early often e.c && !decide (qOf e.c ∈ ys)) = true := by
                 rw [hdue, hmb]
                 simp only [Bool.and_eq_true, Bool.not_eq_true', decide_eq_true_eq, decide_eq_false_iff_not]
                 refine ⟨⟨⟨⟨?_, ?_⟩, ?_⟩, ?_⟩, ?_⟩ <;> first | assumption | omega
               refine N.round (ys ++ [qOf e.c], .slice (some ⟨pa.1, 0, none⟩) (ys.length + 1) pa.2, i + 1) ⟨by show i + 1 ≤ _; omega, by simp; omega, ?_, ((hst true hb).trans (if_pos rfl)).symm⟩ (by show c.list.len - (i + 1) < c.list.len - i; omega) (by simp only [List.length_append, List.length_cons, List.length_nil]; (repeat (first | exact True.intro | refine ⟨rfl, ?_⟩ | refine Sub.int rfl (by omega) ?_))) rfl ?_
               · intro y hy
                 rcases List.mem_append.1 hy with h | h
                 · exact hyg y h
                 · rw [List.mem_singleton.1 h]; exact hqe
               · simp only [List.length_append, List.length_cons, List.length_nil, Nat.zero_add, encs_snoc]
                 (repeat (first | exact List.Sublist.refl _ | exact List.nil_sublist _ | apply List.Sublist.cons_cons | apply List.Sublist.cons)))
            | (have hb : (dueE uses.els now early often e.c && !decide (qOf e.c ∈ ys)) = false := by
                 rw [hdue, hmb, Bool.eq_false_iff]
                 intro h
                 simp only [Bool.and_eq_true, Bool.not_eq_true', decide_eq_true_eq, decide_eq_false_iff_not] at h
                 obtain ⟨⟨⟨⟨k1, k2⟩, k3⟩, k4⟩, k6⟩ := h
                 first
                   | omega
                   | simp_all
               refine N.round (ys, _, i + 1) ⟨by show i + 1 ≤ _; omega, by show ys.length ≤ i + 1; omega, hyg, ((hst false hb).trans (if_neg (by decide))).symm⟩ (by show c.list.len - (i + 1) < c.list.len - i; omega) (by exact vsub0) rfl (by exact vsubX))
            | trace_state
    · have hie : i = c.list.len := by omega
      subst hie
      rw [List.take_of_length_le (by show (c.list.els.map Entry.c).length ≤ _; rw [List.length_map]; omega)] at hys
      repeat (any_goals (first | refine T.seq ?_ | refine T.region ?_ | (apply T.regionD wide; rfl) | refine TL.nil ?_ | refine N.next ?_ | refine N.inBlock ?_ | refine N.exit_same ?_ | refine N.exit_then ?_ | refine N.ret_then ?_ | refine N.ret_block ?_ | (apply N.exit_other; rfl) | refine T.ret ?_ | refine T.skip ?_ | refine T.exit ?_ | refine T.block ?_ | (apply T.cond_true; rfl) | (apply T.cond_false; rfl) | (apply T.test; rfl; (exact visX); intro _; rotate_left; intro _; rotate_right) | (apply TL.skip; rfl; rfl; rfl) | (apply TL.skip_none; rfl; rfl) | (apply GT.skip; rfl; rfl; rfl; decide +kernel) | (apply TL.val; rfl; rfl; (first | exact vpure | exact vread)) | (apply GT.pure; rfl; rfl; rfl; rfl; exact vpure; decide +kernel) | (apply GT.read; rfl; rfl; rfl; rfl; (first | exact vpure | exact vread); decide +kernel) | (apply GT.done; decide +kernel; apply N.ofQ) | (apply GT.adv; rfl) | (apply TL.x; rfl; rfl; (first | exact xgrow | exact xput); intro _ _) | (apply GS.grow; rfl; rfl; exact xgrow; intro _ _) | (apply GS.eff; rfl; decide +kernel; rfl; exact xput; intro _ _) | (apply TL.guard; rfl; rfl; rfl; (exact visX); intro _; rotate_left; intro _; rotate_right) | (apply GT.guard; rfl; rfl; rfl; rfl; (exact visX); intro _; rotate_left; intro _; rotate_right) | (apply GT.fork1; decide +kernel)))
      all_goals (try (exfalso; omega))
      refine N.ret2 rfl (by (exact rvx)) (by (exact rvx)) fun w hst => ?_
      exact qs_end hst (by exact vsubX) rfl hyg (by rw [hys]; rfl)
  · have he : dueC c.c uses.els now early often = ([], 1) := by
      unfold dueC; rw [if_pos]
      rw [Bool.not_eq_true', Bool.eq_false_iff]
      simp only [ne_eq, Bool.and_eq_true, decide_eq_true_eq]
      intro h
      exact hv ⟨h1.symm.trans h.1.1.2, h2.symm.trans h.1.1.1, h3.symm.trans h.1.2, h.2⟩
    rw [he]
    repeat (any_goals (first | refine T.seq ?_ | refine T.region ?_ | (apply T.regionD wide; rfl) | refine TL.nil ?_ | refine N.next ?_ | refine N.inBlock ?_ | refine N.exit_same ?_ | refine N.exit_then ?_ | refine N.ret_then ?_ | refine N.ret_block ?_ | (apply N.exit_other; rfl) | refine T.ret ?_ | refine T.skip ?_ | refine T.exit ?_ | refine T.block ?_ | (apply T.cond_true; rfl) | (apply T.cond_false; rfl) | (apply T.test; rfl; (exact visX); intro _; rotate_left; intro _; rotate_right) | (apply TL.skip; rfl; rfl; rfl) | (apply TL.skip_none; rfl; rfl) | (apply GT.skip; rfl; rfl; rfl; decide +kernel) | (apply TL.x; rfl; rfl; (apply X.box (d := 5); rfl; rfl; rfl); intro b5' _) | (apply TL.callE (f := 80) [.agg (enc c).toArray] Tryz.call80; rfl; rfl; rfl; rfl; (exact fun _ hs => h1 ▸ c_Valid22 c _ _ hs.sat hg)) | (apply TL.callE (f := 38) [uses.v] Tryz.call38; rfl; rfl; rfl; rfl; (exact fun _ hs => h2 ▸ c_Uses32 uses _ _ hs.sat hu)) | (apply TL.callE (f := 81) [intV now] Tryz.call81; rfl; rfl; rfl; rfl; (exact fun _ hs => c_Time22B h3 hs.sat)) | (apply TL.val; rfl; rfl; (first | exact vpure | exact vread)) | (apply GT.pure; rfl; rfl; rfl; rfl; exact vpure; decide +kernel) | (apply GT.read; rfl; rfl; rfl; rfl; (first | exact vpure | exact vread); decide +kernel) | (apply GT.done; decide +kernel; apply N.ofQ) | (apply GT.adv; rfl) | (apply TL.x; rfl; rfl; (first | exact xgrow | exact xput); intro _ _) | (apply GS.grow; rfl; rfl; exact xgrow; intro _ _) | (apply GS.eff; rfl; decide +kernel; rfl; exact xput; intro _ _) | (apply TL.guard; rfl; rfl; rfl; (exact visX); intro _; rotate_left; intro _; rotate_right) | (apply GT.guard; rfl; rfl; rfl; rfl; (exact visX); intro _; rotate_left; intro _; rotate_right) | (apply GT.fork1; decide +kernel)))
    all_goals first
      | exact N.ret2 rfl (by (exact rvx)) (by (exact rvx)) fun w hst => ⟨(_, Slc.nil _), ⟨rfl, Slc.nil_good⟩, rfl, hst.fresh⟩
      | (exfalso; refine hv ⟨by assumption, by assumption, by assumption, ?_⟩; omega)
end Go.Proofs.YtogcofeencgipaaGreatDoor
