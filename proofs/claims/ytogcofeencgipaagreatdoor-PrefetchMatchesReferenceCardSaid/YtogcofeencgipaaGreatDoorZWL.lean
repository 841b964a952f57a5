/- Walks: signatures in form. -/
import Derived.Test.YtogcofeencgipaaGreatDoorZNA
import Derived.Test.YtogcofeencgipaaGreatDoorZData
import Derived.Test.YtogcofeencgipaaGreatDoorZWG
import Derived.Test.YtogcofeencgipaaGreatDoorZEngC
namespace Go.Proofs.YtogcofeencgipaaGreatDoor
set_option linter.unusedVariables false
set_option linter.unusedSimpArgs false
open Go Go.RowKit
set_option maxRecDepth 20000

/-- What is asked of signature number k. -/
def FormAt (l : List Sig) (apex : Bytes) (k : Nat) (h : k < l.length) : Prop := l[k].zone = apex ∧ (1 ≤ l[k].key ∧ l[k].key ≤ 1000000) ∧ (1 ≤ l[k].alg ∧ l[k].alg ≤ 3) ∧ l[k].frm = (l[0]'(by omega)).frm ∧ l[k].til = (l[0]'(by omega)).til ∧ (0 ≤ l[k].frm ∧ l[k].frm ≤ l[k].til ∧ l[k].til ≤ 20000000) ∧ (0 < k → (l[k - 1]'(by omega)).key < l[k].key)
def FormTo (l : List Sig) (apex : Bytes) (k : Nat) : Prop := ∀ j (h : j < l.length), j < k → FormAt l apex j h
theorem form_up {l : List Sig} {apex : Bytes} {k : Nat} (h : FormTo l apex k) (hk : k < l.length) (ha : FormAt l apex k hk) : FormTo l apex (k + 1) := fun j hj hjk => by
  by_cases e : j = k
  · subst e; exact ha
  · exact h j hj (by omega)
theorem form_iff (l : List Sig) (apex : Bytes) : sigsForm l apex = true ↔ l.length ≤ 6 ∧ FormTo l apex l.length := by
  have hd : ∀ j (h : j < l.length), l.headD l[j] = l[0]'(by omega) := fun j h => by
    cases l with
    | nil => simp at h
    | cons x r => rfl
  unfold sigsForm
  rw [Bool.and_eq_true, Bool.and_eq_true, decide_eq_true_eq, chain_iff, List.all_eq_true]
  constructor
  · rintro ⟨⟨h1, h2⟩, h3⟩
    refine ⟨h1, fun j hj _ => ?_⟩
    have h4 := h2 l[j] (List.getElem_mem hj)
    rw [hd j hj] at h4
    unfold sigForm at h4
    simp only [Bool.and_eq_true, decide_eq_true_eq] at h4
    refine ⟨h4.1.1.1.1.1, h4.1.1.1.1.2, h4.1.1.1.2, h4.1.1.2, h4.1.2, h4.2, fun h0 => ?_⟩
    have := h3 j hj h0
    unfold keyLt at this
    exact of_decide_eq_true this
  · rintro ⟨h1, h2⟩
    refine ⟨⟨h1, fun x hx => ?_⟩, fun j hj h0 => ?_⟩
    · obtain ⟨j, hj, rfl⟩ := List.mem_iff_getElem.1 hx
      obtain ⟨a1, a2, a3, a4, a5, a6, _⟩ := h2 j hj hj
      rw [hd j hj]
      unfold sigForm
      simp only [Bool.and_eq_true, decide_eq_true_eq]
      exact ⟨⟨⟨⟨⟨a1, a2⟩, a3⟩, a4⟩, a5⟩, a6⟩
    · unfold keyLt
      exact decide_eq_true ((h2 j hj hj).2.2.2.2.2.2 h0)
theorem form_no {l : List Sig} {apex : Bytes} {k : Nat} (hk : k < l.length) (h : ¬ FormAt l apex k hk) : false = sigsForm l apex := by
  rw [eq_comm, Bool.eq_false_iff]
  intro hf
  exact h (((form_iff l apex).1 hf).2 k hk hk)
theorem form_yes {l : List Sig} {apex : Bytes} (h6 : l.length ≤ 6) (h : FormTo l apex l.length) : true = sigsForm l apex := ((form_iff l apex).2 ⟨h6, h⟩).symm
theorem form_long {l : List Sig} {apex : Bytes} (h6 : ¬ l.length ≤ 6) : false = sigsForm l apex := by
  rw [eq_comm, Bool.eq_false_iff]
  intro hf
  exact h6 ((form_iff l apex).1 hf).1
set_option maxHeartbeats 4000000 in
theorem c_Sigs06 (s : Slc Sig) (apex : Bytes) (H : Hp) (w : World) (hs : Sat H w) (hg : s.Good H) (ha : LenOk apex) : Calls Tryz.prog 42 #[s.v, strV apex] w (Ret w (.bool (sigsForm s.els apex))) := by
  have hlen := hg.len
  refine T.enter (vs := [s.v, strV apex]) (H := H) Tryz.func42 rfl rfl rfl hs ?_
  repeat (any_goals (first | refine T.seq ?_ | refine T.region ?_ | (apply T.regionD wide; rfl) | refine TL.nil ?_ | refine N.next ?_ | refine N.inBlock ?_ | refine N.exit_same ?_ | refine N.exit_then ?_ | refine N.ret_then ?_ | refine N.ret_block ?_ | (apply N.exit_other; rfl) | refine T.ret ?_ | refine T.skip ?_ | refine T.exit ?_ | refine T.block ?_ | (apply T.cond_true; rfl) | (apply T.cond_false; rfl) | (apply T.test; rfl; (with_reducible (first | exact Is.ndec | exact Is.dec | exact Is.not | ((fail_if_success exact Is.litT); (fail_if_success exact Is.litF); exact Is.base))); intro _; rotate_left; intro _; rotate_right) | (apply TL.skip; rfl; rfl; rfl) | (apply TL.skip_none; rfl; rfl) | (apply GT.skip; rfl; rfl; rfl; decide +kernel) | (apply TL.val; rfl; rfl; (first | exact vpure | exact vread)) | (apply GT.pure; rfl; rfl; rfl; rfl; (first | exact vpure); decide +kernel) | (apply GT.read; rfl; rfl; rfl; rfl; (first | exact vpure | exact vread); decide +kernel) | (apply GT.done; decide +kernel; apply N.ofQ) | (apply GT.adv; rfl) | (apply TL.x; rfl; rfl; (first | exact xgrow | exact xput); intro _ _) | (apply GS.grow; rfl; rfl; (first | exact xgrow); intro _ _) | (apply GS.eff; rfl; decide +kernel; rfl; (first | exact xput); intro _ _) | (apply TL.guard; rfl; rfl; rfl; (with_reducible (first | exact Is.ndec | exact Is.dec | exact Is.not | ((fail_if_success exact Is.litT); (fail_if_success exact Is.litF); exact Is.base))); intro _; rotate_left; intro _; rotate_right) | (apply GT.guard; rfl; rfl; rfl; rfl; (with_reducible (first | exact Is.ndec | exact Is.dec | exact Is.not | ((fail_if_success exact Is.litT); (fail_if_success exact Is.litF); exact Is.base))); intro _; rotate_left; intro _; rotate_right) | (apply GT.fork1; decide +kernel) | (apply GT.fork2 1; decide +kernel) | (apply GT.fork2 2; decide +kernel) | (apply GT.fork2 3; decide +kernel) | (apply GT.fork2 4; decide +kernel) | (apply GT.fork2 5; decide +kernel) | (apply GT.fork2 6; decide +kernel) | (apply GT.fork2 7; decide +kernel) | (apply GT.fork2 8; decide +kernel) | (apply GT.fork2 9; decide +kernel) | (apply GT.fork2 10; decide +kernel) | (apply GT.fork2 11; decide +kernel) | (apply GT.fork2 12; decide +kernel) | (apply GT.fork2 13; decide +kernel) | (apply GT.fork2 14; decide +kernel) | (apply GT.fork2 15; decide +kernel) | (apply GT.fork2 16; decide +kernel) | (apply GT.fork2 17; decide +kernel) | (apply GT.fork2 18; decide +kernel) | (apply GT.fork2 19; decide +kernel) | (apply GT.fork2 20; decide +kernel) | (apply GT.fork2 21; decide +kernel) | (apply GT.fork2 22; decide +kernel) | (apply GT.fork2 23; decide +kernel)))
  all_goals (try (first | (apply N.ret_bool; rfl; (exact rvx)) | (apply N.ret_int; rfl; (exact rvx)) | (apply N.ret_val; rfl; (exact rvx))))
  · exact form_long (by omega)
  · refine T.loop (G := Nat) (fun k => [(0, s.v), (1, strV apex), (5, intV k)]) (fun _ => H) (fun _ => []) (fun k => k ≤ s.len ∧ FormTo s.els apex k) (fun k => s.len - k) 0 ⟨Nat.zero_le _, fun j _ h => by omega⟩ (by (repeat (first | exact True.intro | refine ⟨rfl, ?_⟩ | refine Sub.int rfl (by omega) ?_))) rfl (by (first | exact List.Sublist.refl _ | exact List.nil_sublist _ | exact List.Sublist.cons _ (List.Sublist.refl _) | exact List.Sublist.cons _ (List.Sublist.cons _ (List.Sublist.refl _)))) ?_
    rintro k ⟨hk, hrel⟩
    by_cases hlt : k < s.len
    · have hpos : 0 < s.len := by omega
      have hkl : k < s.els.length := by omega
      repeat (any_goals (first | refine T.seq ?_ | refine T.region ?_ | (apply T.regionD wide; rfl) | refine TL.nil ?_ | refine N.next ?_ | refine N.inBlock ?_ | refine N.exit_same ?_ | refine N.exit_then ?_ | refine N.ret_then ?_ | refine N.ret_block ?_ | (apply N.exit_other; rfl) | refine T.ret ?_ | refine T.skip ?_ | refine T.exit ?_ | refine T.block ?_ | (apply T.cond_true; rfl) | (apply T.cond_false; rfl) | (apply T.test; rfl; (with_reducible (first | exact Is.ndec | exact Is.dec | exact Is.not | ((fail_if_success exact Is.litT); (fail_if_success exact Is.litF); exact Is.base))); intro _; rotate_left; intro _; rotate_right) | (apply TL.skip; rfl; rfl; rfl) | (apply TL.skip_none; rfl; rfl) | (apply GT.skip; rfl; rfl; rfl; decide +kernel) | (apply TL.val; rfl; rfl; (first | exact vpure | exact vread)) | (apply GT.pure; rfl; rfl; rfl; rfl; (first | exact vpure); decide +kernel) | (apply GT.read; rfl; rfl; rfl; rfl; (first | exact vpure | exact vread); decide +kernel) | (apply GT.done; decide +kernel; apply N.ofQ) | (apply GT.adv; rfl) | (apply TL.x; rfl; rfl; (first | exact xgrow | exact xput); intro _ _) | (apply GS.grow; rfl; rfl; (first | exact xgrow); intro _ _) | (apply GS.eff; rfl; decide +kernel; rfl; (first | exact xput); intro _ _) | (apply TL.guard; rfl; rfl; rfl; (with_reducible (first | exact Is.ndec | exact Is.dec | exact Is.not | ((fail_if_success exact Is.litT); (fail_if_success exact Is.litF); exact Is.base))); intro _; rotate_left; intro _; rotate_right) | (apply GT.guard; rfl; rfl; rfl; rfl; (with_reducible (first | exact Is.ndec | exact Is.dec | exact Is.not | ((fail_if_success exact Is.litT); (fail_if_success exact Is.litF); exact Is.base))); intro _; rotate_left; intro _; rotate_right) | (apply GT.fork1; decide +kernel) | (apply GT.fork2 1; decide +kernel) | (apply GT.fork2 2; decide +kernel) | (apply GT.fork2 3; decide +kernel) | (apply GT.fork2 4; decide +kernel) | (apply GT.fork2 5; decide +kernel) | (apply GT.fork2 6; decide +kernel) | (apply GT.fork2 7; decide +kernel) | (apply GT.fork2 8; decide +kernel) | (apply GT.fork2 9; decide +kernel) | (apply GT.fork2 10; decide +kernel) | (apply GT.fork2 11; decide +kernel) | (apply GT.fork2 12; decide +kernel) | (apply GT.fork2 13; decide +kernel) | (apply GT.fork2 14; decide +kernel) | (apply GT.fork2 15; decide +kernel) | (apply GT.fork2 16; decide +kernel) | (apply GT.fork2 17; decide +kernel) | (apply GT.fork2 18; decide +kernel) | (apply GT.fork2 19; decide +kernel) | (apply GT.fork2 20; decide +kernel) | (apply GT.fork2 21; decide +kernel) | (apply GT.fork2 22; decide +kernel) | (apply GT.fork2 23; decide +kernel)))
      all_goals (try simp only [show ((k : Int) - 1).toNat = k - 1 by omega] at *)
      all_goals (try (exfalso; omega))
      all_goals first
        | ((refine N.round (k + 1) ?_ ?_ ?_ ?_ ?_; rotate_left 2; (repeat (first | exact True.intro | refine ⟨rfl, ?_⟩ | refine Sub.int rfl (by omega) ?_)); rfl; (first | exact List.Sublist.refl _ | exact List.nil_sublist _ | exact List.Sublist.cons _ (List.Sublist.refl _) | exact List.Sublist.cons _ (List.Sublist.cons _ (List.Sublist.refl _))))
           · exact ⟨by omega, form_up hrel hkl ⟨by assumption, ⟨by omega, by omega⟩, ⟨by omega, by omega⟩, by assumption, by assumption, ⟨by omega, by omega, by omega⟩, fun h0 => by first | omega | trace_state⟩⟩
           · omega)
        | (refine N.ret_bool rfl (by (exact rvx)) (form_no hkl ?_)
           rintro ⟨f1, ⟨f2, f3⟩, ⟨f4, f5⟩, f6, f7, ⟨f8, f9, f10⟩, f11⟩
           first
             | omega
             | exact absurd f1 (by assumption)
             | exact absurd f6 (by assumption)
             | exact absurd f7 (by assumption)
             | (have := f11 (by omega); omega))
        | trace_state
    · repeat (any_goals (first | refine T.seq ?_ | refine T.region ?_ | (apply T.regionD wide; rfl) | refine TL.nil ?_ | refine N.next ?_ | refine N.inBlock ?_ | refine N.exit_same ?_ | refine N.exit_then ?_ | refine N.ret_then ?_ | refine N.ret_block ?_ | (apply N.exit_other; rfl) | refine T.ret ?_ | refine T.skip ?_ | refine T.exit ?_ | refine T.block ?_ | (apply T.cond_true; rfl) | (apply T.cond_false; rfl) | (apply T.test; rfl; (with_reducible (first | exact Is.ndec | exact Is.dec | exact Is.not | ((fail_if_success exact Is.litT); (fail_if_success exact Is.litF); exact Is.base))); intro _; rotate_left; intro _; rotate_right) | (apply TL.skip; rfl; rfl; rfl) | (apply TL.skip_none; rfl; rfl) | (apply GT.skip; rfl; rfl; rfl; decide +kernel) | (apply TL.val; rfl; rfl; (first | exact vpure | exact vread)) | (apply GT.pure; rfl; rfl; rfl; rfl; (first | exact vpure); decide +kernel) | (apply GT.read; rfl; rfl; rfl; rfl; (first | exact vpure | exact vread); decide +kernel) | (apply GT.done; decide +kernel; apply N.ofQ) | (apply GT.adv; rfl) | (apply TL.x; rfl; rfl; (first | exact xgrow | exact xput); intro _ _) | (apply GS.grow; rfl; rfl; (first | exact xgrow); intro _ _) | (apply GS.eff; rfl; decide +kernel; rfl; (first | exact xput); intro _ _) | (apply TL.guard; rfl; rfl; rfl; (with_reducible (first | exact Is.ndec | exact Is.dec | exact Is.not | ((fail_if_success exact Is.litT); (fail_if_success exact Is.litF); exact Is.base))); intro _; rotate_left; intro _; rotate_right) | (apply GT.guard; rfl; rfl; rfl; rfl; (with_reducible (first | exact Is.ndec | exact Is.dec | exact Is.not | ((fail_if_success exact Is.litT); (fail_if_success exact Is.litF); exact Is.base))); intro _; rotate_left; intro _; rotate_right) | (apply GT.fork1; decide +kernel) | (apply GT.fork2 1; decide +kernel) | (apply GT.fork2 2; decide +kernel) | (apply GT.fork2 3; decide +kernel) | (apply GT.fork2 4; decide +kernel) | (apply GT.fork2 5; decide +kernel) | (apply GT.fork2 6; decide +kernel) | (apply GT.fork2 7; decide +kernel) | (apply GT.fork2 8; decide +kernel) | (apply GT.fork2 9; decide +kernel) | (apply GT.fork2 10; decide +kernel) | (apply GT.fork2 11; decide +kernel) | (apply GT.fork2 12; decide +kernel) | (apply GT.fork2 13; decide +kernel) | (apply GT.fork2 14; decide +kernel) | (apply GT.fork2 15; decide +kernel) | (apply GT.fork2 16; decide +kernel) | (apply GT.fork2 17; decide +kernel) | (apply GT.fork2 18; decide +kernel) | (apply GT.fork2 19; decide +kernel) | (apply GT.fork2 20; decide +kernel) | (apply GT.fork2 21; decide +kernel) | (apply GT.fork2 22; decide +kernel) | (apply GT.fork2 23; decide +kernel)))
      all_goals (try (exfalso; omega))
      all_goals (try (first | (apply N.ret_bool; rfl; (exact rvx)) | (apply N.ret_int; rfl; (exact rvx)) | (apply N.ret_val; rfl; (exact rvx))))
      all_goals first
        | exact form_yes (by omega) (fun j hj _ => hrel j hj (by omega))
        | trace_state
end Go.Proofs.YtogcofeencgipaaGreatDoor
namespace Go.Proofs.YtogcofeencgipaaGreatDoor
set_option linter.unusedVariables false
set_option linter.unusedSimpArgs false
open Go
open Enc (enc)
instance : Enc Int where
  size := 1
  enc i := [intV i]
  good _ i := I64 i
  len _ := rfl
  mono _ h := h
  one _ := rfl
  pos := by decide
end Go.Proofs.YtogcofeencgipaaGreatDoor
namespace Go.Proofs.YtogcofeencgipaaGreatDoor
set_option linter.unusedVariables false
set_option linter.unusedSimpArgs false
open Go Go.RowKit
set_option maxRecDepth 20000

theorem c_CloneDatumO (s : Slc Datum) (H : Hp) (w : World) (hs : Sat H w) (hg : s.Good H) (hb : s.len ≤ 1000) : Calls Tryz.prog 152 #[s.v] w (RetO w H (fun p : Option Nat × Nat => p.1 = none → s.len = 0 ∧ p.2 = 0) (fun p => .slice (p.1.map fun g => ⟨g, 0, none⟩) s.len p.2) (fun _ => H) (fun p => [.row (.slice (p.1.map fun g => ⟨g, 0, none⟩) s.len p.2) 86 (Enc.size Datum) s.len (encs s.els)])) := by
  refine T.enter (vs := [s.v]) (H := H) Tryz.func152 rfl rfl rfl hs ?_
  repeat (any_goals (first | refine T.seq ?_ | refine T.region ?_ | refine TL.nil ?_ | refine N.next ?_ | refine N.inBlock ?_ | refine N.exit_same ?_ | refine N.exit_then ?_ | refine N.ret_then ?_ | refine N.ret_block ?_ | (apply N.exit_other; rfl) | refine T.ret ?_ | refine T.skip ?_ | refine T.exit ?_ | refine T.block ?_ | (apply T.cond_true; rfl) | (apply T.cond_false; rfl) | (apply T.test; rfl; (with_reducible (first | exact Is.ndec | exact Is.dec | exact Is.not | ((fail_if_success exact Is.litT); (fail_if_success exact Is.litF); exact Is.base))); intro _; rotate_left; intro _; rotate_right) | (apply TL.skip; rfl; rfl; rfl) | (apply TL.skip_none; rfl; rfl) | (apply TL.val; rfl; rfl; (apply V.sliceNil; rfl; rfl; rfl; rfl)) | (apply TL.x; rfl; rfl; (apply X.appendSlc 0 s; rfl; rfl; rfl; rfl; rfl; rfl; rfl; rfl; rfl; rfl; exact hg; (refine Nat.le_trans (Nat.mul_le_mul_left _ (show _ ≤ 1000 by decide)) ?_; omega); omega); intro _ _) | (apply TL.val; rfl; rfl; (first | exact vpure | exact vread)) | (apply TL.x; rfl; rfl; (first | exact xgrow | exact xput); intro _ _) | (apply TL.guard; rfl; rfl; rfl; (with_reducible (first | exact Is.ndec | exact Is.dec | exact Is.not | ((fail_if_success exact Is.litT); (fail_if_success exact Is.litF); exact Is.base))); intro _; rotate_left; intro _; rotate_right)))
  · rename_i h
    have hl0 : s.len = 0 := by
      rcases Nat.eq_zero_or_pos s.len with h' | h'
      · exact h'
      · rw [hg.at_ h'] at h; cases h
    have hels : s.els = [] := List.eq_nil_of_length_eq_zero (by rw [hg.len]; exact hl0)
    apply N.ret1; rfl; (exact rvx)
    intro w1 hst
    refine ⟨(none, 0), fun _ => ⟨hl0, rfl⟩, by rw [hl0]; rfl, ?_⟩
    rw [hl0, hels]
    exact hst.nilRow _ _
  · rename_i v _
    apply N.ret1; rfl; (exact rvx)
    intro w1 hst
    obtain ⟨o, c, hv, h0⟩ := hst.rowShape (List.Mem.head _)
    rw [Nat.zero_add] at hv h0
    refine ⟨(o, c), h0, by rw [hv], ?_⟩
    have hst' := hst.sub (L' := [.row v 86 _ (0 + s.len) ([] ++ encs s.els)]) (by (first | exact List.Sublist.refl _ | exact List.nil_sublist _ | exact List.Sublist.cons _ (List.Sublist.refl _) | exact List.Sublist.cons _ (List.Sublist.cons _ (List.Sublist.refl _))))
    rw [Nat.zero_add, List.nil_append, hv] at hst'
    exact hst'
theorem c_CloneDatum (s : Slc Datum) (H : Hp) (w : World) (hs : Sat H w) (hg : s.Good H) (hb : s.len ≤ 1000) : Calls Tryz.prog 152 #[s.v] w (RetF w H (fun p : Hp × Slc Datum => p.2.els = s.els ∧ p.2.Good p.1) (fun p => p.2.v) (fun p => p.1)) := by
  refine Calls.mono (c_CloneDatumO s H w hs hg hb) fun e w' => ?_
  rintro ⟨p, h0, rfl, hst⟩
  obtain ⟨H', s', h1, h2, h3, h4, h5⟩ := hst.freezeRow rfl hg.len hg.els
  exact ⟨(H', s'), ⟨h2, h3⟩, congrArg Ending.returned h1.symm, h5.fresh⟩
theorem c_CloneSigO (s : Slc Sig) (H : Hp) (w : World) (hs : Sat H w) (hg : s.Good H) (hb : s.len ≤ 1000) : Calls Tryz.prog 153 #[s.v] w (RetO w H (fun p : Option Nat × Nat => p.1 = none → s.len = 0 ∧ p.2 = 0) (fun p => .slice (p.1.map fun g => ⟨g, 0, none⟩) s.len p.2) (fun _ => H) (fun p => [.row (.slice (p.1.map fun g => ⟨g, 0, none⟩) s.len p.2) 79 (Enc.size Sig) s.len (encs s.els)])) := by
  refine T.enter (vs := [s.v]) (H := H) Tryz.func153 rfl rfl rfl hs ?_
  repeat (any_goals (first | refine T.seq ?_ | refine T.region ?_ | refine TL.nil ?_ | refine N.next ?_ | refine N.inBlock ?_ | refine N.exit_same ?_ | refine N.exit_then ?_ | refine N.ret_then ?_ | refine N.ret_block ?_ | (apply N.exit_other; rfl) | refine T.ret ?_ | refine T.skip ?_ | refine T.exit ?_ | refine T.block ?_ | (apply T.cond_true; rfl) | (apply T.cond_false; rfl) | (apply T.test; rfl; (with_reducible (first | exact Is.ndec | exact Is.dec | exact Is.not | ((fail_if_success exact Is.litT); (fail_if_success exact Is.litF); exact Is.base))); intro _; rotate_left; intro _; rotate_right) | (apply TL.skip; rfl; rfl; rfl) | (apply TL.skip_none; rfl; rfl) | (apply TL.val; rfl; rfl; (apply V.sliceNil; rfl; rfl; rfl; rfl)) | (apply TL.x; rfl; rfl; (apply X.appendSlc 0 s; rfl; rfl; rfl; rfl; rfl; rfl; rfl; rfl; rfl; rfl; exact hg; (refine Nat.le_trans (Nat.mul_le_mul_left _ (show _ ≤ 1000 by decide)) ?_; omega); omega); intro _ _) | (apply TL.val; rfl; rfl; (first | exact vpure | exact vread)) | (apply TL.x; rfl; rfl; (first | exact xgrow | exact xput); intro _ _) | (apply TL.guard; rfl; rfl; rfl; (with_reducible (first | exact Is.ndec | exact Is.dec | exact Is.not | ((fail_if_success exact Is.litT); (fail_if_success exact Is.litF); exact Is.base))); intro _; rotate_left; intro _; rotate_right)))
  · rename_i h
    have hl0 : s.len = 0 := by
      rcases Nat.eq_zero_or_pos s.len with h' | h'
      · exact h'
      · rw [hg.at_ h'] at h; cases h
    have hels : s.els = [] := List.eq_nil_of_length_eq_zero (by rw [hg.len]; exact hl0)
    apply N.ret1; rfl; (exact rvx)
    intro w1 hst
    refine ⟨(none, 0), fun _ => ⟨hl0, rfl⟩, by rw [hl0]; rfl, ?_⟩
    rw [hl0, hels]
    exact hst.nilRow _ _
  · rename_i v _
    apply N.ret1; rfl; (exact rvx)
    intro w1 hst
    obtain ⟨o, c, hv, h0⟩ := hst.rowShape (List.Mem.head _)
    rw [Nat.zero_add] at hv h0
    refine ⟨(o, c), h0, by rw [hv], ?_⟩
    have hst' := hst.sub (L' := [.row v 79 _ (0 + s.len) ([] ++ encs s.els)]) (by (first | exact List.Sublist.refl _ | exact List.nil_sublist _ | exact List.Sublist.cons _ (List.Sublist.refl _) | exact List.Sublist.cons _ (List.Sublist.cons _ (List.Sublist.refl _))))
    rw [Nat.zero_add, List.nil_append, hv] at hst'
    exact hst'
theorem c_CloneSig (s : Slc Sig) (H : Hp) (w : World) (hs : Sat H w) (hg : s.Good H) (hb : s.len ≤ 1000) : Calls Tryz.prog 153 #[s.v] w (RetF w H (fun p : Hp × Slc Sig => p.2.els = s.els ∧ p.2.Good p.1) (fun p => p.2.v) (fun p => p.1)) := by
  refine Calls.mono (c_CloneSigO s H w hs hg hb) fun e w' => ?_
  rintro ⟨p, h0, rfl, hst⟩
  obtain ⟨H', s', h1, h2, h3, h4, h5⟩ := hst.freezeRow rfl hg.len hg.els
  exact ⟨(H', s'), ⟨h2, h3⟩, congrArg Ending.returned h1.symm, h5.fresh⟩
end Go.Proofs.YtogcofeencgipaaGreatDoor
