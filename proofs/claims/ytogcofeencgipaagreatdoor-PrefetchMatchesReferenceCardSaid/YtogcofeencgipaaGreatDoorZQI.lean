/- Walks: prefetch.Asked. -/
import Derived.Test.YtogcofeencgipaaGreatDoorZQH
namespace Go.Proofs.YtogcofeencgipaaGreatDoor
set_option linter.unusedVariables false
set_option linter.unusedSimpArgs false
open Go Go.RowKit
open Enc (enc)
set_option maxRecDepth 20000
theorem c_CloneUseO (s : Slc Use) (H : Hp) (w : World) (hs : Sat H w) (hg : s.Good H) (hb : s.len ≤ 1000) : Calls Tryz.prog 84 #[s.v] w (RetO w H (fun p : Option Nat × Nat => p.1 = none → s.len = 0 ∧ p.2 = 0) (fun p => .slice (p.1.map fun g => ⟨g, 0, none⟩) s.len p.2) (fun _ => H) (fun p => [.row (.slice (p.1.map fun g => ⟨g, 0, none⟩) s.len p.2) 69 (Enc.size Use) s.len (encs s.els)])) := by
  refine T.enter (vs := [s.v]) (H := H) Tryz.func84 rfl rfl rfl hs ?_
  repeat (any_goals (first | refine T.seq ?_ | refine T.region ?_ | refine TL.nil ?_ | refine N.next ?_ | refine N.inBlock ?_ | refine N.exit_same ?_ | refine N.exit_then ?_ | refine N.ret_then ?_ | refine N.ret_block ?_ | (apply N.exit_other; rfl) | refine T.ret ?_ | refine T.skip ?_ | refine T.exit ?_ | refine T.block ?_ | (apply T.cond_true; rfl) | (apply T.cond_false; rfl) | (apply T.test; rfl; (with_reducible (first | exact Is.ndec | exact Is.dec | exact Is.not | ((fail_if_success exact Is.litT); (fail_if_success exact Is.litF); exact Is.base))); intro _; rotate_left; intro _; rotate_right) | (apply TL.skip; rfl; rfl; rfl) | (apply TL.skip_none; rfl; rfl) | (apply TL.val; rfl; rfl; (apply V.sliceNil; rfl; rfl; rfl; rfl)) | (apply TL.x; rfl; rfl; (apply X.appendSlc 0 s; rfl; rfl; rfl; rfl; rfl; rfl; rfl; rfl; rfl; rfl; exact hg; (refine Nat.le_trans (Nat.mul_le_mul_left _ (show _ ≤ 1000 by decide)) ?_; omega); omega); intro _ _) | (apply TL.val; rfl; rfl; (first | exact vpure | exact vread)) | (apply TL.x; rfl; rfl; (first | exact xgrow | exact xput); intro _ _) | (apply TL.guard; rfl; rfl; rfl; (with_reducible (first | exact Is.ndec | exact Is.dec | exact Is.not | ((fail_if_success exact Is.litT); (fail_if_success exact Is.litF); exact Is.base))); intro _; rotate_left; intro _; rotate_right)))
  · rename_i h
    have hl0 : s.len = 0 := by
      rcases Nat.eq_zero_or_pos s.len with h' | h'
      · exact h'
      · rw [hg.at_ h'] at h; cases h
    have hels : s.els = [] := List.eq_nil_of_length_eq_zero (by rw [hg.len]; exact hl0)
    apply N.ret1; rfl; (exact rvx)
    intro w1 hst
    refine ⟨(none, 0), fun _ => ⟨hl0, rfl⟩, by rw [hl0]; rfl, ?_⟩
    rw [hl0, hels]
    exact hst.nilRow _ _
  · rename_i v _
    apply N.ret1; rfl; (exact rvx)
    intro w1 hst
    obtain ⟨o, c, hv, h0⟩ := hst.rowShape (List.Mem.head _)
    rw [Nat.zero_add] at hv h0
    refine ⟨(o, c), h0, by rw [hv], ?_⟩
    have hst' := hst.sub (L' := [.row v 69 _ (0 + s.len) ([] ++ encs s.els)]) (by (first | exact List.Sublist.refl _ | exact List.nil_sublist _ | exact List.Sublist.cons _ (List.Sublist.refl _) | exact List.Sublist.cons _ (List.Sublist.cons _ (List.Sublist.refl _))))
    rw [Nat.zero_add, List.nil_append, hv] at hst'
    exact hst'
def SaysU (H : Hp) (F : FuncId) (cap : Array Value) (p : Use → Bool) (l : List Use) : Prop := ∀ x ∈ l, ∀ w, Sat H w → Calls Tryz.prog F (#[] ++ [Value.agg (enc x).toArray].toArray ++ cap) w (Ret w (.bool (p x)))
theorem c_IndexUse (s : Slc Use) (p : Use → Bool) {F : FuncId} {cap : Array Value} (hcall : ∀ (args : Array Value) (w : World), (callFunc F args).run Tryz.prog w = .ok (.enter F args) w) (H : Hp) (w : World) (hs : Sat H w) (hg : s.Good H) (hF : SaysU H F cap p s.els) : Calls Tryz.prog 85 #[s.v, .func (.func F) #[] cap] w (Ret w (intV (indexC p s.els))) := by
  have hlen := hg.len
  have hlim := hg.lim
  refine T.enter (vs := [s.v, .func (.func F) #[] cap]) (H := H) Tryz.func85 rfl rfl rfl hs ?_
  repeat (any_goals (first | refine T.seq ?_ | refine T.region ?_ | refine TL.nil ?_ | refine N.next ?_ | refine N.inBlock ?_ | refine N.exit_same ?_ | refine N.exit_then ?_ | refine N.ret_then ?_ | refine N.ret_block ?_ | (apply N.exit_other; rfl) | refine T.ret ?_ | refine T.skip ?_ | refine T.exit ?_ | refine T.block ?_ | (apply T.cond_true; rfl) | (apply T.cond_false; rfl) | (apply T.test; rfl; (with_reducible (first | exact Is.ndec | exact Is.dec | exact Is.not | ((fail_if_success exact Is.litT); (fail_if_success exact Is.litF); exact Is.base))); intro _; rotate_left; intro _; rotate_right) | (apply TL.skip; rfl; rfl; rfl) | (apply TL.skip_none; rfl; rfl) | (apply TL.val; rfl; rfl; (first | exact vpure | exact vread)) | (apply TL.x; rfl; rfl; (first | exact xgrow | exact xput); intro _ _) | (apply TL.guard; rfl; rfl; rfl; (with_reducible (first | exact Is.ndec | exact Is.dec | exact Is.not | ((fail_if_success exact Is.litT); (fail_if_success exact Is.litF); exact Is.base))); intro _; rotate_left; intro _; rotate_right)))
  refine T.loop (G := Nat) (fun k => [(0, s.v), (1, .func (.func F) #[] cap), (7, intV s.len), (8, intV k)]) (fun _ => H) (fun _ => []) (fun k => k ≤ s.len ∧ ∀ j (hj : j < s.els.length), j < k → p s.els[j] = false) (fun k => s.len - k) 0 ⟨Nat.zero_le _, fun j _ h => by omega⟩ (by (repeat (first | exact True.intro | refine ⟨rfl, ?_⟩ | refine Sub.int rfl (by omega) ?_))) rfl (by (first | exact List.Sublist.refl _ | exact List.nil_sublist _ | exact List.Sublist.cons _ (List.Sublist.refl _) | exact List.Sublist.cons _ (List.Sublist.cons _ (List.Sublist.refl _)))) ?_
  rintro k ⟨hk, hrel⟩
  by_cases hlt : k < s.len
  · have hkl : k < s.els.length := by omega
    repeat (any_goals (first | refine T.seq ?_ | refine T.region ?_ | refine TL.nil ?_ | refine N.next ?_ | refine N.inBlock ?_ | refine N.exit_same ?_ | refine N.exit_then ?_ | refine N.ret_then ?_ | refine N.ret_block ?_ | (apply N.exit_other; rfl) | refine T.ret ?_ | refine T.skip ?_ | refine T.exit ?_ | refine T.block ?_ | (apply T.cond_true; rfl) | (apply T.cond_false; rfl) | (apply T.test; rfl; (with_reducible (first | exact Is.ndec | exact Is.dec | exact Is.not | ((fail_if_success exact Is.litT); (fail_if_success exact Is.litF); exact Is.base))); intro _; rotate_left; intro _; rotate_right) | (apply TL.skip; rfl; rfl; rfl) | (apply TL.skip_none; rfl; rfl) | (apply TL.call; rfl; rfl; rfl; rfl; exact hcall; exact fun _ hs => hF s.els[k] (List.getElem_mem hkl) _ hs.sat) | (apply TL.val; rfl; rfl; (first | exact vpure | exact vread)) | (apply TL.x; rfl; rfl; (first | exact xgrow | exact xput); intro _ _) | (apply TL.guard; rfl; rfl; rfl; (with_reducible (first | exact Is.ndec | exact Is.dec | exact Is.not | ((fail_if_success exact Is.litT); (fail_if_success exact Is.litF); exact Is.base))); intro _; rotate_left; intro _; rotate_right)))
    all_goals (try (exfalso; omega))
    · refine N.ret_int rfl (by (exact rvx)) ?_
      exact (indexC_at hkl hrel (by assumption)).symm
    · (refine N.round (k + 1) ?_ ?_ ?_ ?_ ?_; rotate_left 2; (repeat (first | exact True.intro | refine ⟨rfl, ?_⟩ | refine Sub.int rfl (by omega) ?_)); rfl; (first | exact List.Sublist.refl _ | exact List.nil_sublist _ | exact List.Sublist.cons _ (List.Sublist.refl _) | exact List.Sublist.cons _ (List.Sublist.cons _ (List.Sublist.refl _))))
      · refine ⟨by omega, fun j hj hjk => ?_⟩
        by_cases e : j = k
        · subst e; assumption
        · exact hrel j hj (by omega)
      · omega
  · repeat (any_goals (first | refine T.seq ?_ | refine T.region ?_ | refine TL.nil ?_ | refine N.next ?_ | refine N.inBlock ?_ | refine N.exit_same ?_ | refine N.exit_then ?_ | refine N.ret_then ?_ | refine N.ret_block ?_ | (apply N.exit_other; rfl) | refine T.ret ?_ | refine T.skip ?_ | refine T.exit ?_ | refine T.block ?_ | (apply T.cond_true; rfl) | (apply T.cond_false; rfl) | (apply T.test; rfl; (with_reducible (first | exact Is.ndec | exact Is.dec | exact Is.not | ((fail_if_success exact Is.litT); (fail_if_success exact Is.litF); exact Is.base))); intro _; rotate_left; intro _; rotate_right) | (apply TL.skip; rfl; rfl; rfl) | (apply TL.skip_none; rfl; rfl) | (apply TL.val; rfl; rfl; (first | exact vpure | exact vread)) | (apply TL.x; rfl; rfl; (first | exact xgrow | exact xput); intro _ _) | (apply TL.guard; rfl; rfl; rfl; (with_reducible (first | exact Is.ndec | exact Is.dec | exact Is.not | ((fail_if_success exact Is.litT); (fail_if_success exact Is.litF); exact Is.base))); intro _; rotate_left; intro _; rotate_right)))
    all_goals (try (exfalso; omega))
    refine N.ret_int rfl (by (exact rvx)) ?_
    exact (indexC_no fun j hj => hrel j hj (by omega)).symm
theorem c_IndexRowU {els : List Use} {p : Use → Bool} {F : FuncId} {cap : Array Value} (hcall : ∀ (args : Array Value) (w : World), (callFunc F args).run Tryz.prog w = .ok (.enter F args) w) {w0 w : World} {H0 H : Hp} {L : List Loc} {v : Value} {m : Nat} {r : Int} (hs : St w0 H0 H (.row v 69 3 m (encs els) :: L) w) (hl : els.length = m) (hg : ∀ x ∈ els, Enc.good H x) (hF : SaysU H F cap p els) (hr : indexC p els = r) : Calls Tryz.prog 85 #[v, .func (.func F) #[] cap] w (Ret w (intV r)) := by
  obtain ⟨H', s, h1, h2, h3, h4, h5⟩ := hs.freezeRow rfl hl hg
  have := c_IndexUse s p (cap := cap) hcall H' w h5.sat h3 (fun x hx w hs => hF x (h2 ▸ hx) w (hs.of_le h4))
  rw [h1, h2, hr] at this
  exact this
def isQ (q : Question) (u : Use) : Bool := decide (u.q = q)
theorem c_asked1 (x : Use) (q : Question) (b : Nat) (H : Hp) (w : World) (hs : Sat H w) (hx : Enc.good H x) (hq : Enc.good H q) (hb : H.cells b 0 (enc q)) : Calls Tryz.prog 86 #[.agg (enc x).toArray, .pointer (some ⟨b, 0, none⟩)] w (Ret w (.bool (isQ q x))) := by
  refine T.enter (vs := [.agg (enc x).toArray, .pointer (some ⟨b, 0, none⟩)]) (H := H) Tryz.func86 rfl rfl rfl hs ?_
  repeat (any_goals (first | refine T.seq ?_ | refine T.region ?_ | refine TL.nil ?_ | refine N.next ?_ | refine N.inBlock ?_ | refine N.exit_same ?_ | refine N.exit_then ?_ | refine N.ret_then ?_ | refine N.ret_block ?_ | (apply N.exit_other; rfl) | refine T.ret ?_ | refine T.skip ?_ | refine T.exit ?_ | refine T.block ?_ | (apply T.cond_true; rfl) | (apply T.cond_false; rfl) | (apply T.test; rfl; (with_reducible (first | exact Is.ndec | exact Is.dec | exact Is.not | ((fail_if_success exact Is.litT); (fail_if_success exact Is.litF); exact Is.base))); intro _; rotate_left; intro _; rotate_right) | (apply TL.skip; rfl; rfl; rfl) | (apply TL.skip_none; rfl; rfl) | (apply TL.val; rfl; rfl; (apply V.load_H_row; rfl; rfl; rfl; exact hb; rfl)) | (apply TL.val; rfl; rfl; (apply V.aeql; rfl; rfl; exact Tryz.eqGuardType23; exact fun w => eq_Question x.q q w)) | (apply TL.val; rfl; rfl; (first | exact vpure | exact vread)) | (apply TL.x; rfl; rfl; (first | exact xgrow | exact xput); intro _ _) | (apply TL.guard; rfl; rfl; rfl; (with_reducible (first | exact Is.ndec | exact Is.dec | exact Is.not | ((fail_if_success exact Is.litT); (fail_if_success exact Is.litF); exact Is.base))); intro _; rotate_left; intro _; rotate_right)))
  all_goals (try (first | (apply N.ret_bool; rfl; (exact rvx)) | (apply N.ret_int; rfl; (exact rvx)) | (apply N.ret_val; rfl; (exact rvx))))
  all_goals rfl
theorem says_asked {H : Hp} {q : Question} {b : Nat} (hq : Enc.good H q) (hb : H.cells b 0 (enc q)) {l : List Use} (hl : ∀ x ∈ l, Enc.good H x) : SaysU H 86 #[.pointer (some ⟨b, 0, none⟩)] (isQ q) l := fun x hx w hs => capn ▸ c_asked1 x q b H w hs (hl x hx) hq hb
def bump (u : Use) : Use := ⟨u.q, minI (u.times + 1) 1000000⟩
/-- Uses after a question. -/
def askedC (l : List Use) (q : Question) : List Use × Int :=
  if !(usesOK l && questionOK q) then ([], 1) else if l.any (isQ q) then (l.map fun u => if isQ q u then bump u else u, 0) else if l.length = 400 then ([], 41) else (l ++ [⟨q, 1⟩], 0)
def UsesR (w : World) (H : Hp) (r : List Use × Int) : Ending → World → Prop := RetF w H (fun g : Hp × Slc Use => g.2.els = r.1 ∧ g.2.Good g.1) (fun g => .tuple #[g.2.v, intV r.2]) (fun g => g.1)
theorem any_none {l : List Use} {q : Question} (h : timesOf l q = none) : l.any (isQ q) = false := by
  rw [List.any_eq_false]
  intro u hu he
  exact timesOf_none h (List.mem_map.2 ⟨u, hu, of_decide_eq_true he⟩)
theorem uses_end {w0 w : World} {H0 H : Hp} {L : List Loc} {v : Value} {n : Nat} {els : List Use} {r : List Use × Int} {z : Int} (hst : St w0 H0 H L w) (hsub : List.Sublist [.row v 69 3 n (encs els)] L) (hl : els.length = n) (hg : ∀ x ∈ els, Enc.good H x) (hr : r = (els, z)) : UsesR w0 H0 r (.returned (.tuple #[v, intV z])) w := by
  subst hr
  obtain ⟨H', s, h1, h2, h3, h4, h5⟩ := (hst.sub hsub).freezeRow rfl hl hg
  exact ⟨(H', s), ⟨h2, h3⟩, by rw [← h1], h5.fresh⟩
theorem set_bump {l : List Use} {q : Question} {k : Nat} (hk : k < l.length) (hq : isQ q (l[k]'hk) = true) (hn : (l.map Use.q).Nodup) : l.map (fun u => if isQ q u then bump u else u) = l.set k (bump (l[k]'hk)) := by
  apply List.ext_getElem
  · rw [List.length_map, List.length_set]
  · intro i h1 h2
    rw [List.length_map] at h1
    rw [List.getElem_map, List.getElem_set]
    by_cases e : k = i
    · subst e; rw [if_pos hq, if_pos rfl]
    · rw [if_neg e, if_neg]
      intro hi
      have e1 : (l[k]'hk).q = q := of_decide_eq_true hq
      have e2 : (l[i]'h1).q = q := of_decide_eq_true hi
      have := (List.getElem_inj (h₀ := by rw [List.length_map]; exact hk) (h₁ := by rw [List.length_map]; exact h1) hn).1 (by rw [List.getElem_map, List.getElem_map, e1, e2])
      exact e this
theorem some_of {o : Option Nat} {n c : Nat} (h : o = none → n = 0 ∧ c = 0) (hn : 0 < n) : ∃ g, o = some g := by
  cases o with
  | none => have := (h rfl).1; omega
  | some g => exact ⟨g, rfl⟩
set_option maxHeartbeats 8000000 in
theorem c_Asked (l : Slc Use) (q : Question) (H : Hp) (w : World) (hs : Sat H w) (hg : l.Good H) (hq : Enc.good H q) : Calls Tryz.prog 29 #[l.v, .agg (enc q).toArray] w (UsesR w H (askedC l.els q)) := by
  have hlen := hg.len
  have hlim := hg.lim
  refine T.enter (vs := [l.v, .agg (enc q).toArray]) (H := H) Tryz.func29 rfl rfl rfl hs ?_
  cases hu : usesOK l.els with
  | false =>
    have he : askedC l.els q = ([], 1) := by unfold askedC; rw [hu]; rfl
    rw [he]
    repeat (any_goals (first | refine T.seq ?_ | refine T.region ?_ | refine TL.nil ?_ | refine N.next ?_ | refine N.inBlock ?_ | refine N.exit_same ?_ | refine N.exit_then ?_ | refine N.ret_then ?_ | refine N.ret_block ?_ | (apply N.exit_other; rfl) | refine T.ret ?_ | refine T.skip ?_ | refine T.exit ?_ | refine T.block ?_ | (apply T.cond_true; rfl) | (apply T.cond_false; rfl) | (apply T.test; rfl; (with_reducible (first | exact Is.ndec | exact Is.dec | exact Is.not | ((fail_if_success exact Is.litT); (fail_if_success exact Is.litF); exact Is.base))); intro _; rotate_left; intro _; rotate_right) | (apply TL.skip; rfl; rfl; rfl) | (apply TL.skip_none; rfl; rfl) | (apply TL.callE (f := 76) [l.v] Tryz.call76; rfl; rfl; rfl; rfl; (exact fun _ hs => c_countsF l _ _ hs.sat hg hu)) | (apply TL.val; rfl; rfl; (first | exact vpure | exact vread)) | (apply TL.x; rfl; rfl; (first | exact xgrow | exact xput); intro _ _) | (apply TL.guard; rfl; rfl; rfl; (with_reducible (first | exact Is.ndec | exact Is.dec | exact Is.not | ((fail_if_success exact Is.litT); (fail_if_success exact Is.litF); exact Is.base))); intro _; rotate_left; intro _; rotate_right)))
    all_goals (try contradiction)
    all_goals exact N.ret2 rfl (by (exact rvx)) (by (exact rvx)) fun w hst => ⟨(H, Slc.nil _), ⟨rfl, Slc.nil_good⟩, rfl, hst.fresh⟩
  | true =>
  cases hqo : questionOK q with
  | false =>
    have he : askedC l.els q = ([], 1) := by unfold askedC; rw [hu, hqo]; rfl
    rw [he]
    repeat (any_goals (first | refine T.seq ?_ | refine T.region ?_ | refine TL.nil ?_ | refine N.next ?_ | refine N.inBlock ?_ | refine N.exit_same ?_ | refine N.exit_then ?_ | refine N.ret_then ?_ | refine N.ret_block ?_ | (apply N.exit_other; rfl) | refine T.ret ?_ | refine T.skip ?_ | refine T.exit ?_ | refine T.block ?_ | (apply T.cond_true; rfl) | (apply T.cond_false; rfl) | (apply T.test; rfl; (with_reducible (first | exact Is.ndec | exact Is.dec | exact Is.not | ((fail_if_success exact Is.litT); (fail_if_success exact Is.litF); exact Is.base))); intro _; rotate_left; intro _; rotate_right) | (apply TL.skip; rfl; rfl; rfl) | (apply TL.skip_none; rfl; rfl) | (apply TL.x; rfl; rfl; (apply X.callFE (f := 76) [l.v] Tryz.call76; rfl; rfl; rfl; exact (fun _ hs => c_countsT l _ _ hs.sat hg hu)); intro p hp; have hq1 := Enc.mono hp.2 hq) | (apply TL.callE (f := 83) [.agg (enc q).toArray] Tryz.call83; rfl; rfl; rfl; rfl; (exact fun _ hs => hqo ▸ c_pquestion q _ _ hs.sat hq1)) | (apply TL.val; rfl; rfl; (first | exact vpure | exact vread)) | (apply TL.x; rfl; rfl; (first | exact xgrow | exact xput); intro _ _) | (apply TL.guard; rfl; rfl; rfl; (with_reducible (first | exact Is.ndec | exact Is.dec | exact Is.not | ((fail_if_success exact Is.litT); (fail_if_success exact Is.litF); exact Is.base))); intro _; rotate_left; intro _; rotate_right)))
    all_goals (try contradiction)
    all_goals exact N.ret2 rfl (by (exact rvx)) (by (exact rvx)) fun w hst => ⟨(_, Slc.nil _), ⟨rfl, Slc.nil_good⟩, rfl, hst.fresh⟩
  | true =>
    have hl4 : l.len ≤ 400 := by
      have h := hu; unfold usesOK at h; simp only [Bool.and_eq_true, decide_eq_true_eq] at h; omega
    have hnd : (l.els.map Use.q).Nodup := by
      have h := hu; unfold usesOK at h; simp only [Bool.and_eq_true, decide_eq_true_eq] at h; exact h.2
    cases ht : timesOf l.els q with
    | none =>
      have hany : l.els.any (isQ q) = false := any_none ht
      have hg1 : ∀ m : List (Question × Value), (∀ q, aGet q m = (timesOf l.els q).map intV) → (aGet q m).getD (intV 0) = intV 0 ∧ (aGet q m).isSome = false := fun m h => by rw [h q, ht]; exact ⟨rfl, rfl⟩
      by_cases h400 : l.len = 400
      · have he : askedC l.els q = ([], 41) := by unfold askedC; rw [hu, hqo, hany, hlen, if_pos h400]; rfl
        rw [he]
        repeat (any_goals (first | refine T.seq ?_ | refine T.region ?_ | refine TL.nil ?_ | refine N.next ?_ | refine N.inBlock ?_ | refine N.exit_same ?_ | refine N.exit_then ?_ | refine N.ret_then ?_ | refine N.ret_block ?_ | (apply N.exit_other; rfl) | refine T.ret ?_ | refine T.skip ?_ | refine T.exit ?_ | refine T.block ?_ | (apply T.cond_true; rfl) | (apply T.cond_false; rfl) | (apply T.test; rfl; (with_reducible (first | exact Is.ndec | exact Is.dec | exact Is.not | ((fail_if_success exact Is.litT); (fail_if_success exact Is.litF); exact Is.base))); intro _; rotate_left; intro _; rotate_right) | (apply TL.skip; rfl; rfl; rfl) | (apply TL.skip_none; rfl; rfl) | (apply TL.x; rfl; rfl; (apply X.box (d := 3); rfl; rfl; rfl); intro b3 _; apply TL.frz 0; rfl; intro H1 z3 hle1; have hg2 := hg.mono hle1; have hq1 := Enc.mono hle1 hq) | (apply TL.x; rfl; rfl; (apply X.callFE (f := 76) [l.v] Tryz.call76; rfl; rfl; rfl; exact (fun _ hs => c_countsT l _ _ hs.sat hg2 hu)); intro p hp; obtain ⟨m, hm1, hm2⟩ := hp.1; have hq2 := Enc.mono hp.2 hq1; have hg3 := hg2.mono hp.2; have z4 := Hp.cells_le hp.2 z3) | (apply TL.callE (f := 83) [.agg (enc q).toArray] Tryz.call83; rfl; rfl; rfl; rfl; (exact fun _ hs => hqo ▸ c_pquestion q _ _ hs.sat hq2)) | (apply TL.val; rfl; rfl; (apply V.load_H_row; rfl; rfl; rfl; exact z4; rfl)) | (apply TL.x; rfl; rfl; (apply X.callO0 (f := 84) Tryz.call84; rfl; rfl; exact fun _ hs => c_CloneUseO l _ _ hs.sat hg3 (by omega)); intro po hpo) | (apply TL.val; rfl; rfl; (apply V.mlookupOkH q; rfl; rfl; rfl; exact key_q; rfl; rfl; exact hm1; exact (hg1 m hm2).1; exact (hg1 m hm2).2)) | (apply TL.val; rfl; rfl; (first | exact vpure | exact vread)) | (apply TL.x; rfl; rfl; (first | exact xgrow | exact xput); intro _ _) | (apply TL.guard; rfl; rfl; rfl; (with_reducible (first | exact Is.ndec | exact Is.dec | exact Is.not | ((fail_if_success exact Is.litT); (fail_if_success exact Is.litF); exact Is.base))); intro _; rotate_left; intro _; rotate_right)))
        all_goals (try contradiction)
        all_goals (try (exfalso; omega))
        exact N.ret2 rfl (by (exact rvx)) (by (exact rvx)) fun w hst => ⟨(_, Slc.nil _), ⟨rfl, Slc.nil_good⟩, rfl, hst.fresh⟩
      · have he : askedC l.els q = (l.els ++ [⟨q, 1⟩], 0) := by unfold askedC; rw [hu, hqo, hany, hlen, if_neg h400]; rfl
        rw [he]
        repeat (any_goals (first | refine T.seq ?_ | refine T.region ?_ | refine TL.nil ?_ | refine N.next ?_ | refine N.inBlock ?_ | refine N.exit_same ?_ | refine N.exit_then ?_ | refine N.ret_then ?_ | refine N.ret_block ?_ | (apply N.exit_other; rfl) | refine T.ret ?_ | refine T.skip ?_ | refine T.exit ?_ | refine T.block ?_ | (apply T.cond_true; rfl) | (apply T.cond_false; rfl) | (apply T.test; rfl; (with_reducible (first | exact Is.ndec | exact Is.dec | exact Is.not | ((fail_if_success exact Is.litT); (fail_if_success exact Is.litF); exact Is.base))); intro _; rotate_left; intro _; rotate_right) | (apply TL.skip; rfl; rfl; rfl) | (apply TL.skip_none; rfl; rfl) | (apply TL.x; rfl; rfl; (apply X.box (d := 3); rfl; rfl; rfl); intro b3 _; apply TL.frz 0; rfl; intro H1 z3 hle1; have hg2 := hg.mono hle1; have hq1 := Enc.mono hle1 hq) | (apply TL.x; rfl; rfl; (apply X.callFE (f := 76) [l.v] Tryz.call76; rfl; rfl; rfl; exact (fun _ hs => c_countsT l _ _ hs.sat hg2 hu)); intro p hp; obtain ⟨m, hm1, hm2⟩ := hp.1; have hq2 := Enc.mono hp.2 hq1; have hg3 := hg2.mono hp.2; have z4 := Hp.cells_le hp.2 z3) | (apply TL.callE (f := 83) [.agg (enc q).toArray] Tryz.call83; rfl; rfl; rfl; rfl; (exact fun _ hs => hqo ▸ c_pquestion q _ _ hs.sat hq2)) | (apply TL.val; rfl; rfl; (apply V.load_H_row; rfl; rfl; rfl; exact z4; rfl)) | (apply TL.x; rfl; rfl; (apply X.callO0 (f := 84) Tryz.call84; rfl; rfl; exact fun _ hs => c_CloneUseO l _ _ hs.sat hg3 (by omega)); intro po hpo) | (apply TL.val; rfl; rfl; (apply V.mlookupOkH q; rfl; rfl; rfl; exact key_q; rfl; rfl; exact hm1; exact (hg1 m hm2).1; exact (hg1 m hm2).2)) | (apply TL.val; rfl; rfl; (apply V.build; rfl; rfl; rfl; rfl; rfl; rfl)) | (apply TL.x; rfl; rfl; (apply X.buildSlice1 (d := 40); rfl; rfl; rfl; rfl; rfl; rfl; rfl; rfl); intro b40 _) | (apply TL.x; rfl; rfl; (apply X.append1 1; rfl; rfl; rfl; rfl; rfl; rfl; rfl; rfl; rfl; exact List.Mem.head _; rfl; rfl; rfl; (refine Nat.le_trans (Nat.mul_le_mul_right _ (show _ ≤ 1000 by omega)) ?_; decide); omega); intro pa _) | (apply TL.val; rfl; rfl; (first | exact vpure | exact vread)) | (apply TL.x; rfl; rfl; (first | exact xgrow | exact xput); intro _ _) | (apply TL.guard; rfl; rfl; rfl; (with_reducible (first | exact Is.ndec | exact Is.dec | exact Is.not | ((fail_if_success exact Is.litT); (fail_if_success exact Is.litF); exact Is.base))); intro _; rotate_left; intro _; rotate_right)))
        all_goals (try contradiction)
        all_goals (try (exfalso; omega))
        refine N.ret2 rfl (by (exact rvx)) (by (exact rvx)) fun w hst => ?_
        refine uses_end (els := l.els ++ [⟨q, 1⟩]) hst ?_ (by rw [List.length_append, hlen, List.length_singleton]) ?_ rfl
        · rw [encs_snoc]
          exact List.Sublist.cons _ (List.Sublist.cons_cons _ (List.nil_sublist _))
        · intro x hx
          rcases List.mem_append.1 hx with h | h
          · exact hg3.els x h
          · rw [List.mem_singleton.1 h]; exact ⟨hq2, by show I64 1; decide⟩
    | some t =>
      obtain ⟨u0, hu0, hu1, hu2⟩ := timesOf_some ht
      have hany : l.els.any (isQ q) = true := List.any_eq_true.2 ⟨u0, hu0, decide_eq_true hu1⟩
      have hg1 : ∀ m : List (Question × Value), (∀ q, aGet q m = (timesOf l.els q).map intV) → (aGet q m).getD (intV 0) = intV t ∧ (aGet q m).isSome = true := fun m h => by rw [h q, ht]; exact ⟨rfl, rfl⟩
      obtain ⟨hI, hno⟩ | ⟨k, hk, hI, hkp, hkb⟩ := indexC_cases (isQ q) l.els
      · exact absurd ((hno u0 hu0).symm.trans (decide_eq_true hu1)) Bool.false_ne_true
      have he : askedC l.els q = (l.els.set k (bump (l.els[k]'hk)), 0) := by unfold askedC; rw [hu, hqo, hany, set_bump hk hkp hnd]; rfl
      rw [he]
      have hkl : k < l.len := by omega
      have hx := hg.els _ (List.getElem_mem hk)
      have hxo : useOK (l.els[k]'hk) = true := by
        have h := hu; unfold usesOK at h; simp only [Bool.and_eq_true, List.all_eq_true] at h; exact h.1.2 _ (List.getElem_mem hk)
      have hxt : 1 ≤ (l.els[k]'hk).times ∧ (l.els[k]'hk).times ≤ 1000000 := by
        unfold useOK at hxo; rw [Bool.and_eq_true, decide_eq_true_eq] at hxo; exact hxo.2
      have hke : l.els[k]? = some (l.els[k]'hk) := List.getElem?_eq_getElem hk
      repeat (any_goals (first | refine T.seq ?_ | refine T.region ?_ | refine TL.nil ?_ | refine N.next ?_ | refine N.inBlock ?_ | refine N.exit_same ?_ | refine N.exit_then ?_ | refine N.ret_then ?_ | refine N.ret_block ?_ | (apply N.exit_other; rfl) | refine T.ret ?_ | refine T.skip ?_ | refine T.exit ?_ | refine T.block ?_ | (apply T.cond_true; rfl) | (apply T.cond_false; rfl) | (apply T.test; rfl; (with_reducible (first | exact Is.ndec | exact Is.dec | exact Is.not | ((fail_if_success exact Is.litT); (fail_if_success exact Is.litF); exact Is.base))); intro _; rotate_left; intro _; rotate_right) | (apply TL.skip; rfl; rfl; rfl) | (apply TL.skip_none; rfl; rfl) | (apply TL.val; rfl; rfl; (apply V.makeFunc (vs := []) (us := [.pointer (some ⟨b3, 0, none⟩)]) <;> rfl)) | (apply TL.call0 (f := 85) Tryz.call85; rfl; rfl; rfl; (exact fun _ hs => c_IndexRowU (els := l.els) (m := l.len) (L := []) Tryz.call86 hs hlen hg3.els (says_asked hq2 z4 hg3.els) hI)) | (apply TL.val; rfl; rfl; (apply V.elem; rfl; rfl; rfl; rfl; rfl; rfl; exact hkl; rfl)) | (apply TL.val; rfl; rfl; (apply V.load_own; rfl; rfl; rfl; (exact lmem); exact encs_atQ (j := 2) hke rfl (by show 0 + k * 3 + 2 = k * 3 + 2; omega))) | (apply TL.val; rfl; rfl; (apply V.min (M := (bump (l.els[k]'hk)).times) rfl; rfl; rfl)) | (apply TL.x; rfl; rfl; (exact X.storeRowE 0 (vs := [intV (bump (l.els[k]'hk)).times]) rfl rfl rfl rfl rfl rfl rfl (by show 0 + k * 3 + 2 + 1 ≤ l.len * 3; omega) (encs_put (j := 2) (y := bump (l.els[k]'hk)) hke (by show 2 + 1 ≤ 3; omega) rfl (by show 0 + k * 3 + 2 = k * 3 + 2; omega))); intro _ _) | (apply TL.x; rfl; rfl; (apply X.box (d := 3); rfl; rfl; rfl); intro b3 _; apply TL.frz 0; rfl; intro H1 z3 hle1; have hg2 := hg.mono hle1; have hq1 := Enc.mono hle1 hq) | (apply TL.x; rfl; rfl; (apply X.callFE (f := 76) [l.v] Tryz.call76; rfl; rfl; rfl; exact (fun _ hs => c_countsT l _ _ hs.sat hg2 hu)); intro p hp; obtain ⟨m, hm1, hm2⟩ := hp.1; have hq2 := Enc.mono hp.2 hq1; have hg3 := hg2.mono hp.2; have z4 := Hp.cells_le hp.2 z3) | (apply TL.callE (f := 83) [.agg (enc q).toArray] Tryz.call83; rfl; rfl; rfl; rfl; (exact fun _ hs => hqo ▸ c_pquestion q _ _ hs.sat hq2)) | (apply TL.val; rfl; rfl; (apply V.load_H_row; rfl; rfl; rfl; exact z4; rfl)) | (apply TL.x; rfl; rfl; (apply X.callO0 (f := 84) Tryz.call84; rfl; rfl; exact fun _ hs => c_CloneUseO l _ _ hs.sat hg3 (by omega)); rintro ⟨po1, po2⟩ hpo; obtain ⟨gb, rfl⟩ := some_of hpo.1 (by show 0 < l.len; omega)) | (apply TL.val; rfl; rfl; (apply V.mlookupOkH q; rfl; rfl; rfl; exact key_q; rfl; rfl; exact hm1; exact (hg1 m hm2).1; exact (hg1 m hm2).2)) | (apply TL.val; rfl; rfl; (first | exact vpure | exact vread)) | (apply TL.x; rfl; rfl; (first | exact xgrow | exact xput); intro _ _) | (apply TL.guard; rfl; rfl; rfl; (with_reducible (first | exact Is.ndec | exact Is.dec | exact Is.not | ((fail_if_success exact Is.litT); (fail_if_success exact Is.litF); exact Is.base))); intro _; rotate_left; intro _; rotate_right)))
      all_goals (try contradiction)
      all_goals (try (exfalso; omega))
      refine N.ret2 rfl (by (exact rvx)) (by (exact rvx)) fun w hst => ?_
      refine uses_end (els := l.els.set k (bump (l.els[k]'hk))) hst (List.Sublist.refl _) (by rw [List.length_set, hlen]) ?_ rfl
      intro x hx
      rcases List.mem_or_eq_of_mem_set hx with h | h
      · exact hg3.els x h
      · rw [h]
        exact ⟨(hg3.els _ (List.getElem_mem hk)).1, by show I64 (minI _ _); unfold minI; split <;> (constructor <;> omega)⟩
end Go.Proofs.YtogcofeencgipaaGreatDoor
