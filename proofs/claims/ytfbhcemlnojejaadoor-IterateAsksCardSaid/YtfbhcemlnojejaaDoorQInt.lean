/- Walks: lists of numbers. -/
import Derived.Test.YtfbhcemlnojejaaDoorQTac
import Derived.Test.YtfbhcemlnojejaaDoorQEngC
import Derived.Test.YtfbhcemlnojejaaDoorQDataI
import Derived.Test.YtfbhcemlnojejaaDoorQWL
namespace Go.Proofs.YtfbhcemlnojejaaDoor
set_option linter.unusedVariables false
set_option linter.unusedSimpArgs false
open Go Go.RowKit
set_option maxRecDepth 20000

theorem c_IndexInt (s : Slc Int) (x : Int) (H : Hp) (w : World) (hs : Sat H w) (hg : s.Good H) : Calls Tryd.prog 150 #[s.v, intV x] w (Ret w (intV (idxI (fun y => decide (x = y)) s.els))) := by
  have hlen : s.els.length = s.len := hg.len
  have hlim := hg.lim
  refine T.enter (vs := [s.v, intV x]) (H := H) Tryd.func150 rfl rfl rfl hs ?_
  repeat (any_goals (first | refine T.seq ?_ | refine T.region ?_ | refine TL.nil ?_ | refine N.next ?_ | refine N.inBlock ?_ | refine N.exit_same ?_ | refine N.exit_then ?_ | refine N.ret_then ?_ | refine N.ret_block ?_ | (apply N.exit_other; rfl) | refine T.ret ?_ | refine T.skip ?_ | refine T.exit ?_ | refine T.block ?_ | (apply T.cond_true; rfl) | (apply T.cond_false; rfl) | (apply T.test; rfl; (with_reducible (first | exact Is.ndec | exact Is.dec | exact Is.not | ((fail_if_success exact Is.litT); (fail_if_success exact Is.litF); exact Is.base))); intro _; rotate_left; intro _; rotate_right) | (apply TL.skip; rfl; rfl; rfl) | (apply TL.skip_none; rfl; rfl) | (apply TL.val; rfl; rfl; (first | exact vpure | exact vread)) | (apply TL.x; rfl; rfl; (first | exact xgrow | exact xput); intro _ _) | (apply TL.guard; rfl; rfl; rfl; (with_reducible (first | exact Is.ndec | exact Is.dec | exact Is.not | ((fail_if_success exact Is.litT); (fail_if_success exact Is.litF); exact Is.base))); intro _; rotate_left; intro _; rotate_right)))
  refine T.loop (G := Nat) (fun k => [(0, s.v), (1, intV x), (7, intV s.len), (8, intV k)]) (fun _ => H) (fun _ => []) (fun k => k ≤ s.len ∧ AllTo (fun y => !decide (x = y)) s.els k) (fun k => s.len - k) 0 ⟨Nat.zero_le _, allTo_zero⟩ (by (repeat (first | exact True.intro | refine ⟨rfl, ?_⟩ | refine Sub.int rfl (by omega) ?_))) rfl (by (first | exact List.Sublist.refl _ | exact List.nil_sublist _ | exact List.Sublist.cons _ (List.Sublist.refl _) | exact List.Sublist.cons _ (List.Sublist.cons _ (List.Sublist.refl _)))) ?_
  rintro k ⟨hk, hrel⟩
  repeat (any_goals (first | refine T.seq ?_ | refine T.region ?_ | refine TL.nil ?_ | refine N.next ?_ | refine N.inBlock ?_ | refine N.exit_same ?_ | refine N.exit_then ?_ | refine N.ret_then ?_ | refine N.ret_block ?_ | (apply N.exit_other; rfl) | refine T.ret ?_ | refine T.skip ?_ | refine T.exit ?_ | refine T.block ?_ | (apply T.cond_true; rfl) | (apply T.cond_false; rfl) | (apply T.test; rfl; (with_reducible (first | exact Is.ndec | exact Is.dec | exact Is.not | ((fail_if_success exact Is.litT); (fail_if_success exact Is.litF); exact Is.base))); intro _; rotate_left; intro _; rotate_right) | (apply TL.skip; rfl; rfl; rfl) | (apply TL.skip_none; rfl; rfl) | (apply TL.val; rfl; rfl; (first | exact vpure | exact vread)) | (apply TL.x; rfl; rfl; (first | exact xgrow | exact xput); intro _ _) | (apply TL.guard; rfl; rfl; rfl; (with_reducible (first | exact Is.ndec | exact Is.dec | exact Is.not | ((fail_if_success exact Is.litT); (fail_if_success exact Is.litF); exact Is.base))); intro _; rotate_left; intro _; rotate_right)))
  all_goals (try (apply N.ret_int; rfl; (exact rvx)))
  all_goals (try (refine N.round (k + 1) ?_ ?_ ?_ ?_ ?_; rotate_left 2; (repeat (first | exact True.intro | refine ⟨rfl, ?_⟩ | refine Sub.int rfl (by omega) ?_)); rfl; (first | exact List.Sublist.refl _ | exact List.nil_sublist _ | exact List.Sublist.cons _ (List.Sublist.refl _) | exact List.Sublist.cons _ (List.Sublist.cons _ (List.Sublist.refl _)))))
  all_goals first
    | omega
    | exact ⟨by omega, allTo_up (by omega) hrel (by simp [*])⟩
    | exact (idxI_at (by omega) (by simp [*]) (fun j hj => by have h' := hrel j (by omega) hj; simpa using h')).symm
    | exact (idxI_none (fun j hj => by have h' := hrel j hj (by omega); simpa using h')).symm
theorem c_ContInt (s : Slc Int) (x : Int) (H : Hp) (w : World) (hs : Sat H w) (hg : s.Good H) : Calls Tryd.prog 138 #[s.v, intV x] w (Ret w (.bool (s.els.any fun y => decide (x = y)))) := by
  refine T.enter (vs := [s.v, intV x]) (H := H) Tryd.func138 rfl rfl rfl hs ?_
  repeat (any_goals (first | refine T.seq ?_ | refine T.region ?_ | refine TL.nil ?_ | refine N.next ?_ | refine N.inBlock ?_ | refine N.exit_same ?_ | refine N.exit_then ?_ | refine N.ret_then ?_ | refine N.ret_block ?_ | (apply N.exit_other; rfl) | refine T.ret ?_ | refine T.skip ?_ | refine T.exit ?_ | refine T.block ?_ | (apply T.cond_true; rfl) | (apply T.cond_false; rfl) | (apply T.test; rfl; (with_reducible (first | exact Is.ndec | exact Is.dec | exact Is.not | ((fail_if_success exact Is.litT); (fail_if_success exact Is.litF); exact Is.base))); intro _; rotate_left; intro _; rotate_right) | (apply TL.skip; rfl; rfl; rfl) | (apply TL.skip_none; rfl; rfl) | (apply TL.call0 (f := 150) Tryd.call150; rfl; rfl; rfl; (exact fun _ hs => c_IndexInt _ _ _ _ hs.sat hg)) | (apply TL.val; rfl; rfl; (first | exact vpure | exact vread)) | (apply TL.x; rfl; rfl; (first | exact xgrow | exact xput); intro _ _) | (apply TL.guard; rfl; rfl; rfl; (with_reducible (first | exact Is.ndec | exact Is.dec | exact Is.not | ((fail_if_success exact Is.litT); (fail_if_success exact Is.litF); exact Is.base))); intro _; rotate_left; intro _; rotate_right)))
  all_goals (try (first | (apply N.ret_bool; rfl; (exact rvx)) | (apply N.ret_int; rfl; (exact rvx)) | (apply N.ret_val; rfl; (exact rvx))))
  exact idxI_ge _ _
theorem c_CloneIntO (s : Slc Int) (H : Hp) (w : World) (hs : Sat H w) (hg : s.Good H) (hb : s.len ≤ 1000) : Calls Tryd.prog 139 #[s.v] w (RetO w H (fun p : Option Nat × Nat => p.1 = none → s.len = 0 ∧ p.2 = 0) (fun p => .slice (p.1.map fun g => ⟨g, 0, none⟩) s.len p.2) (fun _ => H) (fun p => [.row (.slice (p.1.map fun g => ⟨g, 0, none⟩) s.len p.2) 3 (Enc.size Int) s.len (encs s.els)])) := by
  refine T.enter (vs := [s.v]) (H := H) Tryd.func139 rfl rfl rfl hs ?_
  repeat (any_goals (first | refine T.seq ?_ | refine T.region ?_ | refine TL.nil ?_ | refine N.next ?_ | refine N.inBlock ?_ | refine N.exit_same ?_ | refine N.exit_then ?_ | refine N.ret_then ?_ | refine N.ret_block ?_ | (apply N.exit_other; rfl) | refine T.ret ?_ | refine T.skip ?_ | refine T.exit ?_ | refine T.block ?_ | (apply T.cond_true; rfl) | (apply T.cond_false; rfl) | (apply T.test; rfl; (with_reducible (first | exact Is.ndec | exact Is.dec | exact Is.not | ((fail_if_success exact Is.litT); (fail_if_success exact Is.litF); exact Is.base))); intro _; rotate_left; intro _; rotate_right) | (apply TL.skip; rfl; rfl; rfl) | (apply TL.skip_none; rfl; rfl) | (apply TL.val; rfl; rfl; (apply V.sliceNil; rfl; rfl; rfl; rfl)) | (apply TL.x; rfl; rfl; (apply X.buildSlice0; rfl; rfl; rfl; rfl); intro _ _) | (apply TL.x; rfl; rfl; (apply X.appendSlc 0 s; rfl; rfl; rfl; rfl; rfl; rfl; rfl; rfl; rfl; rfl; exact hg; (refine Nat.le_trans (Nat.mul_le_mul_left _ (show _ ≤ 1000 by decide)) ?_; omega); omega); intro _ _) | (apply TL.val; rfl; rfl; (first | exact vpure | exact vread)) | (apply TL.x; rfl; rfl; (first | exact xgrow | exact xput); intro _ _) | (apply TL.guard; rfl; rfl; rfl; (with_reducible (first | exact Is.ndec | exact Is.dec | exact Is.not | ((fail_if_success exact Is.litT); (fail_if_success exact Is.litF); exact Is.base))); intro _; rotate_left; intro _; rotate_right)))
  · rename_i h
    have hl0 : s.len = 0 := by
      rcases Nat.eq_zero_or_pos s.len with h' | h'
      · exact h'
      · rw [hg.at_ h'] at h; cases h
    have hels : s.els = [] := List.eq_nil_of_length_eq_zero (by rw [hg.len]; exact hl0)
    apply N.ret1; rfl; (exact rvx)
    intro w1 hst
    refine ⟨(none, 0), fun _ => ⟨hl0, rfl⟩, by rw [hl0]; rfl, ?_⟩
    rw [hl0, hels]
    exact hst.nilRow _ _
  · rename_i v _
    apply N.ret1; rfl; (exact rvx)
    intro w1 hst
    obtain ⟨o, c, hv, h0⟩ := hst.rowShape (List.Mem.head _)
    rw [Nat.zero_add] at hv h0
    refine ⟨(o, c), h0, by rw [hv], ?_⟩
    have hst' := hst.sub (L' := [.row v 3 _ (0 + s.len) ([] ++ encs s.els)]) (by (first | exact List.Sublist.refl _ | exact List.nil_sublist _ | exact List.Sublist.cons _ (List.Sublist.refl _) | exact List.Sublist.cons _ (List.Sublist.cons _ (List.Sublist.refl _))))
    rw [Nat.zero_add, List.nil_append, hv] at hst'
    exact hst'
/-- A row of the call's own, frozen: it lies in new memory. -/
theorem St.freezeRowN {α : Type} [Enc α] {w0 w : World} {H0 H : Hp} {L : List Loc} {v : Value} {e : TypeId} {size m n : Nat} {els : List α} (hs : St w0 H0 H (.row v e size m (encs els) :: L) w) (hsz : size = Enc.size α) (hm : els.length = m) (hg : ∀ x ∈ els, Enc.good H x) (hn : n ≤ w0.heap.size) : ∃ (H' : Hp) (s : Slc α), s.v = v ∧ s.els = els ∧ s.Good H' ∧ H.le H' ∧ St w0 H0 H' L w ∧ (0 < s.len → n ≤ s.b) := by
  obtain ⟨o, c, hv, _⟩ := hs.rowShape (List.Mem.head _)
  obtain ⟨H', s, e1, e2, e3, e4, e5⟩ := hs.freezeRow hsz hm hg
  refine ⟨H', s, e1, e2, e3, e4, e5, fun h0 => ?_⟩
  have ha := e3.at_ h0
  have hb : v.ownBlock = some s.b := by
    rw [← e1]
    show (Value.slice s.A s.len s.cap).ownBlock = _
    rw [ha]; rfl
  exact Nat.le_trans hn (ownBlock_lt (show w.ownsRow w0.heap.size e size v m (encs els) from hs.ok _ (List.Mem.head _)) hb).2
theorem c_CloneIntN (s : Slc Int) (H : Hp) (w : World) (n : Nat) (hn : n ≤ w.heap.size) (hs : Sat H w) (hg : s.Good H) (hb : s.len ≤ 1000) : Calls Tryd.prog 139 #[s.v] w (RetF w H (fun p : Hp × Slc Int => p.2.els = s.els ∧ p.2.Good p.1 ∧ (0 < p.2.len → n ≤ p.2.b)) (fun p => p.2.v) (fun p => p.1)) := by
  refine Calls.mono (c_CloneIntO s H w hs hg hb) fun e w' => ?_
  rintro ⟨p, h0, rfl, hst⟩
  obtain ⟨H', s', h1, h2, h3, h4, h5, h6⟩ := hst.freezeRowN rfl hg.len hg.els hn
  exact ⟨(H', s'), ⟨h2, h3, h6⟩, congrArg Ending.returned h1.symm, h5.fresh⟩
end Go.Proofs.YtfbhcemlnojejaaDoor
