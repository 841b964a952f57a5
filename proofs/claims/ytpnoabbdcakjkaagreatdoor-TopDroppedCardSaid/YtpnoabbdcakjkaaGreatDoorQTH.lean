/- Walks: the first element for which a function says so. -/
import Derived.Test.YtpnoabbdcakjkaaGreatDoorQTF
namespace Go.Proofs.YtpnoabbdcakjkaaGreatDoor
set_option linter.unusedVariables false
set_option linter.unusedSimpArgs false
open Go Go.RowKit
open Enc (enc)
set_option maxRecDepth 20000

theorem find_at {α : Type} {p : α → Bool} {l : List α} {k : Nat} (hk : k < l.length) (hp : p l[k] = true) (h : ∀ j (hj : j < l.length), j < k → p l[j] = false) : l.find? p = some l[k] := by
  rw [List.find?_eq_some_iff_getElem]
  exact ⟨hp, k, hk, rfl, fun j hj => by simpa using h j (by omega) hj⟩
theorem find_no {α : Type} {p : α → Bool} {l : List α} (h : ∀ j (hj : j < l.length), p l[j] = false) : l.find? p = none := by
  rw [List.find?_eq_none]
  intro x hx
  obtain ⟨j, hj, rfl⟩ := List.mem_iff_getElem.1 hx
  simpa using h j hj
abbrev setNil : RSet := ⟨[], 0, 0, Slc.nil _⟩
abbrev signedNil : Signed := ⟨setNil, Slc.nil _⟩
abbrev keyNil : KeyC := ⟨0, 0⟩
section
variable {P : Program} {n : FK} {w0 w : World} {H0 H : Hp} {Q : Exit → Act → World → Prop} {env : List (Nat × Value)} {L : List Loc} {ops rest : List Oper}
/-- A block of the call's own that is not written any more. -/
theorem St.frz {b : Nat} {e : TypeId} {cs : List Value} (hs : St w0 H0 H (.blk b e cs :: L) w) : ∃ H' : Hp, H'.cells b 0 cs ∧ H.le H' ∧ St w0 H0 H' L w :=
  ⟨_, Hp.put_cells, hs.putLe (List.Mem.head _) _, hs.freeze rfl ((hs.ok _ (List.Mem.head _)).2)⟩
theorem TL.frz (i : Nat) {b : Nat} {e : TypeId} {cs : List Value} (hi : L[i]? = some (.blk b e cs)) (h : ∀ (H' : Hp), H'.cells b 0 cs → H.le H' → TL P n w0 H0 ops Q rest env H' (L.eraseIdx i)) : TL P n w0 H0 ops Q rest env H L := by
  refine TL.perm _ (perm_of hi) ⟨fun a w hf hs => ?_⟩
  obtain ⟨H', e3, e4, e5⟩ := hs.frz
  exact (h H' e3 e4).out a w hf e5
theorem T.frz {c : Code} (i : Nat) {b : Nat} {e : TypeId} {cs : List Value} (hi : L[i]? = some (.blk b e cs)) (h : ∀ (H' : Hp), H'.cells b 0 cs → H.le H' → T P n w0 H0 c Q env H' (L.eraseIdx i)) : T P n w0 H0 c Q env H L := by
  refine T.perm _ (perm_of hi) ⟨fun a w hf hs => ?_⟩
  obtain ⟨H', e3, e4, e5⟩ := hs.frz
  exact (h H' e3 e4).out a w hf e5
end
theorem Hp.cells.le {H H' : Hp} {b o : Nat} {l : List Value} (hc : H.cells b o l) (h : H.le H') : H'.cells b o l := Hp.cells_le h hc
/-- What a function value answers. -/
def SaysOf {α : Type} [Enc α] (H : Hp) (F : FuncId) (cap : Array Value) (p : α → Bool) (l : List α) : Prop := ∀ x ∈ l, ∀ w, Sat H w → Calls Tryz.prog F (#[] ++ [Value.agg (enc x).toArray].toArray ++ cap) w (Ret w (.bool (p x)))
theorem c_firstKey (s : Slc KeyC) (p : KeyC → Bool) {F : FuncId} {cap : Array Value} (hcall : ∀ (args : Array Value) (w : World), (callFunc F args).run Tryz.prog w = .ok (.enter F args) w) (H : Hp) (w : World) (hs : Sat H w) (hg : s.Good H) (hF : SaysOf H F cap p s.els) : Calls Tryz.prog 139 #[s.v, .func (.func F) #[] cap] w (Ret w (.tuple #[.agg (enc ((s.els.find? p).getD keyNil)).toArray, .bool (s.els.find? p).isSome])) := by
  have hlen := hg.len
  have hlim := hg.lim
  refine T.enter (vs := [s.v, .func (.func F) #[] cap]) (H := H) Tryz.func139 rfl rfl rfl hs ?_
  repeat (any_goals (first | refine T.seq ?_ | refine T.region ?_ | refine TL.nil ?_ | refine N.next ?_ | refine N.inBlock ?_ | refine N.exit_same ?_ | refine N.exit_then ?_ | refine N.ret_then ?_ | refine N.ret_block ?_ | (apply N.exit_other; rfl) | refine T.ret ?_ | refine T.skip ?_ | refine T.exit ?_ | refine T.block ?_ | (apply T.cond_true; rfl) | (apply T.cond_false; rfl) | (apply T.test; rfl; (exact isx); intro _; rotate_left; intro _; rotate_right) | (apply TL.skip; rfl; rfl; rfl) | (apply TL.skip_none; rfl; rfl) | (apply TL.val; rfl; rfl; (first | exact vpure | exact vread)) | (apply TL.x; rfl; rfl; (first | exact xgrow | exact xput); intro _ _) | (apply TL.guard; rfl; rfl; rfl; (exact isx); intro _; rotate_left; intro _; rotate_right)))
  rename_i b4 _
  refine T.loop (G := Nat) (fun k => [(1, .func (.func F) #[] cap), (4, .pointer (some ⟨b4, 0, none⟩)), (9, s.v), (10, intV s.len), (11, intV k)]) (fun _ => H) (fun _ => [.blk b4 115 (enc (keyNil : KeyC))]) (fun k => k ≤ s.len ∧ ∀ j (hj : j < s.els.length), j < k → p s.els[j] = false) (fun k => s.len - k) 0 ⟨Nat.zero_le _, fun j _ h => by omega⟩ (by (repeat (first | exact True.intro | refine ⟨rfl, ?_⟩ | refine Sub.int rfl (by omega) ?_))) rfl (by exact List.Sublist.refl _) ?_
  rintro k ⟨hk, hrel⟩
  by_cases hlt : k < s.len
  · have hkl : k < s.els.length := by omega
    repeat (any_goals (first | refine T.seq ?_ | refine T.region ?_ | refine TL.nil ?_ | refine N.next ?_ | refine N.inBlock ?_ | refine N.exit_same ?_ | refine N.exit_then ?_ | refine N.ret_then ?_ | refine N.ret_block ?_ | (apply N.exit_other; rfl) | refine T.ret ?_ | refine T.skip ?_ | refine T.exit ?_ | refine T.block ?_ | (apply T.cond_true; rfl) | (apply T.cond_false; rfl) | (apply T.test; rfl; (exact isx); intro _; rotate_left; intro _; rotate_right) | (apply TL.skip; rfl; rfl; rfl) | (apply TL.skip_none; rfl; rfl) | (apply TL.x; rfl; rfl; (apply X.storeTo 0 (enc (s.els[k]'hkl)); (iterate 10 rfl)); intro _ _) | (apply TL.x; rfl; rfl; (apply X.storeTo 1 (enc (s.els[k]'hkl)); (iterate 10 rfl)); intro _ _) | (apply TL.call; (iterate 4 rfl); exact hcall; exact fun _ hs => hF s.els[k] (List.getElem_mem hkl) _ hs.sat) | (apply TL.val; rfl; rfl; (first | exact vpure | exact vread)) | (apply TL.x; rfl; rfl; (first | exact xgrow | exact xput); intro _ _) | (apply TL.guard; rfl; rfl; rfl; (exact isx); intro _; rotate_left; intro _; rotate_right)))
    all_goals (try (exfalso; omega))
    · apply N.ret_two; rfl; (exact rvx); (exact rvx)
      rw [find_at hkl (by assumption) hrel]
      rfl
    · (refine N.round (k + 1) ?_ ?_ ?_ ?_ ?_; rotate_left 2; (repeat (first | exact True.intro | refine ⟨rfl, ?_⟩ | refine Sub.int rfl (by omega) ?_)); rfl; (first | exact List.Sublist.refl _ | exact List.nil_sublist _ | exact List.Sublist.cons _ (List.Sublist.refl _) | exact List.Sublist.cons _ (List.Sublist.cons _ (List.Sublist.refl _))))
      · refine ⟨by omega, fun j hj hjk => ?_⟩
        by_cases e : j = k
        · subst e; assumption
        · exact hrel j hj (by omega)
      · omega
  · repeat (any_goals (first | refine T.seq ?_ | refine T.region ?_ | refine TL.nil ?_ | refine N.next ?_ | refine N.inBlock ?_ | refine N.exit_same ?_ | refine N.exit_then ?_ | refine N.ret_then ?_ | refine N.ret_block ?_ | (apply N.exit_other; rfl) | refine T.ret ?_ | refine T.skip ?_ | refine T.exit ?_ | refine T.block ?_ | (apply T.cond_true; rfl) | (apply T.cond_false; rfl) | (apply T.test; rfl; (exact isx); intro _; rotate_left; intro _; rotate_right) | (apply TL.skip; rfl; rfl; rfl) | (apply TL.skip_none; rfl; rfl) | (apply TL.x; rfl; rfl; (apply X.storeTo 1 (enc (keyNil : KeyC)); (iterate 10 rfl)); intro _ _) | (apply TL.val; rfl; rfl; (first | exact vpure | exact vread)) | (apply TL.x; rfl; rfl; (first | exact xgrow | exact xput); intro _ _) | (apply TL.guard; rfl; rfl; rfl; (exact isx); intro _; rotate_left; intro _; rotate_right)))
    all_goals (try (exfalso; omega))
    apply N.ret_two; rfl; (exact rvx); (exact rvx)
    rw [find_no fun j hj => hrel j hj (by omega)]
    rfl
theorem c_firstSig (s : Slc Sig) (p : Sig → Bool) {F : FuncId} {cap : Array Value} (hcall : ∀ (args : Array Value) (w : World), (callFunc F args).run Tryz.prog w = .ok (.enter F args) w) (H : Hp) (w : World) (hs : Sat H w) (hg : s.Good H) (hF : SaysOf H F cap p s.els) : Calls Tryz.prog 137 #[s.v, .func (.func F) #[] cap] w (Ret w (.tuple #[.agg (enc ((s.els.find? p).getD sigNil)).toArray, .bool (s.els.find? p).isSome])) := by
  have hlen := hg.len
  have hlim := hg.lim
  refine T.enter (vs := [s.v, .func (.func F) #[] cap]) (H := H) Tryz.func137 rfl rfl rfl hs ?_
  repeat (any_goals (first | refine T.seq ?_ | refine T.region ?_ | refine TL.nil ?_ | refine N.next ?_ | refine N.inBlock ?_ | refine N.exit_same ?_ | refine N.exit_then ?_ | refine N.ret_then ?_ | refine N.ret_block ?_ | (apply N.exit_other; rfl) | refine T.ret ?_ | refine T.skip ?_ | refine T.exit ?_ | refine T.block ?_ | (apply T.cond_true; rfl) | (apply T.cond_false; rfl) | (apply T.test; rfl; (exact isx); intro _; rotate_left; intro _; rotate_right) | (apply TL.skip; rfl; rfl; rfl) | (apply TL.skip_none; rfl; rfl) | (apply TL.val; rfl; rfl; (first | exact vpure | exact vread)) | (apply TL.x; rfl; rfl; (first | exact xgrow | exact xput); intro _ _) | (apply TL.guard; rfl; rfl; rfl; (exact isx); intro _; rotate_left; intro _; rotate_right)))
  rename_i b4 _
  refine T.loop (G := Nat) (fun k => [(1, .func (.func F) #[] cap), (4, .pointer (some ⟨b4, 0, none⟩)), (9, s.v), (10, intV s.len), (11, intV k)]) (fun _ => H) (fun _ => [.blk b4 111 (enc (sigNil : Sig))]) (fun k => k ≤ s.len ∧ ∀ j (hj : j < s.els.length), j < k → p s.els[j] = false) (fun k => s.len - k) 0 ⟨Nat.zero_le _, fun j _ h => by omega⟩ (by (repeat (first | exact True.intro | refine ⟨rfl, ?_⟩ | refine Sub.int rfl (by omega) ?_))) rfl (by exact List.Sublist.refl _) ?_
  rintro k ⟨hk, hrel⟩
  by_cases hlt : k < s.len
  · have hkl : k < s.els.length := by omega
    repeat (any_goals (first | refine T.seq ?_ | refine T.region ?_ | refine TL.nil ?_ | refine N.next ?_ | refine N.inBlock ?_ | refine N.exit_same ?_ | refine N.exit_then ?_ | refine N.ret_then ?_ | refine N.ret_block ?_ | (apply N.exit_other; rfl) | refine T.ret ?_ | refine T.skip ?_ | refine T.exit ?_ | refine T.block ?_ | (apply T.cond_true; rfl) | (apply T.cond_false; rfl) | (apply T.test; rfl; (exact isx); intro _; rotate_left; intro _; rotate_right) | (apply TL.skip; rfl; rfl; rfl) | (apply TL.skip_none; rfl; rfl) | (apply TL.x; rfl; rfl; (apply X.storeTo 0 (enc (s.els[k]'hkl)); (iterate 10 rfl)); intro _ _) | (apply TL.x; rfl; rfl; (apply X.storeTo 1 (enc (s.els[k]'hkl)); (iterate 10 rfl)); intro _ _) | (apply TL.call; (iterate 4 rfl); exact hcall; exact fun _ hs => hF s.els[k] (List.getElem_mem hkl) _ hs.sat) | (apply TL.val; rfl; rfl; (first | exact vpure | exact vread)) | (apply TL.x; rfl; rfl; (first | exact xgrow | exact xput); intro _ _) | (apply TL.guard; rfl; rfl; rfl; (exact isx); intro _; rotate_left; intro _; rotate_right)))
    all_goals (try (exfalso; omega))
    · apply N.ret_two; rfl; (exact rvx); (exact rvx)
      rw [find_at hkl (by assumption) hrel]
      rfl
    · (refine N.round (k + 1) ?_ ?_ ?_ ?_ ?_; rotate_left 2; (repeat (first | exact True.intro | refine ⟨rfl, ?_⟩ | refine Sub.int rfl (by omega) ?_)); rfl; (first | exact List.Sublist.refl _ | exact List.nil_sublist _ | exact List.Sublist.cons _ (List.Sublist.refl _) | exact List.Sublist.cons _ (List.Sublist.cons _ (List.Sublist.refl _))))
      · refine ⟨by omega, fun j hj hjk => ?_⟩
        by_cases e : j = k
        · subst e; assumption
        · exact hrel j hj (by omega)
      · omega
  · repeat (any_goals (first | refine T.seq ?_ | refine T.region ?_ | refine TL.nil ?_ | refine N.next ?_ | refine N.inBlock ?_ | refine N.exit_same ?_ | refine N.exit_then ?_ | refine N.ret_then ?_ | refine N.ret_block ?_ | (apply N.exit_other; rfl) | refine T.ret ?_ | refine T.skip ?_ | refine T.exit ?_ | refine T.block ?_ | (apply T.cond_true; rfl) | (apply T.cond_false; rfl) | (apply T.test; rfl; (exact isx); intro _; rotate_left; intro _; rotate_right) | (apply TL.skip; rfl; rfl; rfl) | (apply TL.skip_none; rfl; rfl) | (apply TL.x; rfl; rfl; (apply X.storeTo 1 (enc (sigNil : Sig)); (iterate 10 rfl)); intro _ _) | (apply TL.val; rfl; rfl; (first | exact vpure | exact vread)) | (apply TL.x; rfl; rfl; (first | exact xgrow | exact xput); intro _ _) | (apply TL.guard; rfl; rfl; rfl; (exact isx); intro _; rotate_left; intro _; rotate_right)))
    all_goals (try (exfalso; omega))
    apply N.ret_two; rfl; (exact rvx); (exact rvx)
    rw [find_no fun j hj => hrel j hj (by omega)]
    rfl
theorem c_firstSigned (s : Slc Signed) (p : Signed → Bool) {F : FuncId} {cap : Array Value} (hcall : ∀ (args : Array Value) (w : World), (callFunc F args).run Tryz.prog w = .ok (.enter F args) w) (H : Hp) (w : World) (hs : Sat H w) (hg : s.Good H) (hF : SaysOf H F cap p s.els) : Calls Tryz.prog 133 #[s.v, .func (.func F) #[] cap] w (Ret w (.tuple #[.agg (enc ((s.els.find? p).getD signedNil)).toArray, .bool (s.els.find? p).isSome])) := by
  have hlen := hg.len
  have hlim := hg.lim
  refine T.enter (vs := [s.v, .func (.func F) #[] cap]) (H := H) Tryz.func133 rfl rfl rfl hs ?_
  repeat (any_goals (first | refine T.seq ?_ | refine T.region ?_ | refine TL.nil ?_ | refine N.next ?_ | refine N.inBlock ?_ | refine N.exit_same ?_ | refine N.exit_then ?_ | refine N.ret_then ?_ | refine N.ret_block ?_ | (apply N.exit_other; rfl) | refine T.ret ?_ | refine T.skip ?_ | refine T.exit ?_ | refine T.block ?_ | (apply T.cond_true; rfl) | (apply T.cond_false; rfl) | (apply T.test; rfl; (exact isx); intro _; rotate_left; intro _; rotate_right) | (apply TL.skip; rfl; rfl; rfl) | (apply TL.skip_none; rfl; rfl) | (apply TL.val; rfl; rfl; (first | exact vpure | exact vread)) | (apply TL.x; rfl; rfl; (first | exact xgrow | exact xput); intro _ _) | (apply TL.guard; rfl; rfl; rfl; (exact isx); intro _; rotate_left; intro _; rotate_right)))
  rename_i b4 _
  refine T.loop (G := Nat) (fun k => [(1, .func (.func F) #[] cap), (4, .pointer (some ⟨b4, 0, none⟩)), (9, s.v), (10, intV s.len), (11, intV k)]) (fun _ => H) (fun _ => [.blk b4 69 (enc (signedNil : Signed))]) (fun k => k ≤ s.len ∧ ∀ j (hj : j < s.els.length), j < k → p s.els[j] = false) (fun k => s.len - k) 0 ⟨Nat.zero_le _, fun j _ h => by omega⟩ (by (repeat (first | exact True.intro | refine ⟨rfl, ?_⟩ | refine Sub.int rfl (by omega) ?_))) rfl (by exact List.Sublist.refl _) ?_
  rintro k ⟨hk, hrel⟩
  by_cases hlt : k < s.len
  · have hkl : k < s.els.length := by omega
    repeat (any_goals (first | refine T.seq ?_ | refine T.region ?_ | refine TL.nil ?_ | refine N.next ?_ | refine N.inBlock ?_ | refine N.exit_same ?_ | refine N.exit_then ?_ | refine N.ret_then ?_ | refine N.ret_block ?_ | (apply N.exit_other; rfl) | refine T.ret ?_ | refine T.skip ?_ | refine T.exit ?_ | refine T.block ?_ | (apply T.cond_true; rfl) | (apply T.cond_false; rfl) | (apply T.test; rfl; (exact isx); intro _; rotate_left; intro _; rotate_right) | (apply TL.skip; rfl; rfl; rfl) | (apply TL.skip_none; rfl; rfl) | (apply TL.x; rfl; rfl; (apply X.storeTo 0 (enc (s.els[k]'hkl)); (iterate 10 rfl)); intro _ _) | (apply TL.x; rfl; rfl; (apply X.storeTo 1 (enc (s.els[k]'hkl)); (iterate 10 rfl)); intro _ _) | (apply TL.call; (iterate 4 rfl); exact hcall; exact fun _ hs => hF s.els[k] (List.getElem_mem hkl) _ hs.sat) | (apply TL.val; rfl; rfl; (first | exact vpure | exact vread)) | (apply TL.x; rfl; rfl; (first | exact xgrow | exact xput); intro _ _) | (apply TL.guard; rfl; rfl; rfl; (exact isx); intro _; rotate_left; intro _; rotate_right)))
    all_goals (try (exfalso; omega))
    · apply N.ret_two; rfl; (exact rvx); (exact rvx)
      rw [find_at hkl (by assumption) hrel]
      rfl
    · (refine N.round (k + 1) ?_ ?_ ?_ ?_ ?_; rotate_left 2; (repeat (first | exact True.intro | refine ⟨rfl, ?_⟩ | refine Sub.int rfl (by omega) ?_)); rfl; (first | exact List.Sublist.refl _ | exact List.nil_sublist _ | exact List.Sublist.cons _ (List.Sublist.refl _) | exact List.Sublist.cons _ (List.Sublist.cons _ (List.Sublist.refl _))))
      · refine ⟨by omega, fun j hj hjk => ?_⟩
        by_cases e : j = k
        · subst e; assumption
        · exact hrel j hj (by omega)
      · omega
  · repeat (any_goals (first | refine T.seq ?_ | refine T.region ?_ | refine TL.nil ?_ | refine N.next ?_ | refine N.inBlock ?_ | refine N.exit_same ?_ | refine N.exit_then ?_ | refine N.ret_then ?_ | refine N.ret_block ?_ | (apply N.exit_other; rfl) | refine T.ret ?_ | refine T.skip ?_ | refine T.exit ?_ | refine T.block ?_ | (apply T.cond_true; rfl) | (apply T.cond_false; rfl) | (apply T.test; rfl; (exact isx); intro _; rotate_left; intro _; rotate_right) | (apply TL.skip; rfl; rfl; rfl) | (apply TL.skip_none; rfl; rfl) | (apply TL.x; rfl; rfl; (apply X.storeTo 1 (enc (signedNil : Signed)); (iterate 10 rfl)); intro _ _) | (apply TL.val; rfl; rfl; (first | exact vpure | exact vread)) | (apply TL.x; rfl; rfl; (first | exact xgrow | exact xput); intro _ _) | (apply TL.guard; rfl; rfl; rfl; (exact isx); intro _; rotate_left; intro _; rotate_right)))
    all_goals (try (exfalso; omega))
    apply N.ret_two; rfl; (exact rvx); (exact rvx)
    rw [find_no fun j hj => hrel j hj (by omega)]
    rfl
end Go.Proofs.YtpnoabbdcakjkaaGreatDoor
namespace Go.Proofs.YtpnoabbdcakjkaaGreatDoor
set_option linter.unusedVariables false
set_option linter.unusedSimpArgs false
open Go Go.RowKit
open Enc (enc)
set_option maxRecDepth 20000

theorem find_any {α : Type} (p : α → Bool) (l : List α) : (l.find? p).isSome = l.any p := by
  induction l with
  | nil => rfl
  | cons x l ih =>
    rw [List.find?_cons, List.any_cons]
    cases p x with
    | true => rfl
    | false => simpa using ih
theorem cells_take {H : Hp} {b o : Nat} {l : List Value} (h : H.cells b o l) (n : Nat) : H.cells b o (l.take n) := fun j v hj => by
  rw [List.getElem?_take] at hj
  by_cases hjn : j < n
  · rw [if_pos hjn] at hj; exact h j v hj
  · rw [if_neg hjn] at hj; cases hj
theorem cells_drop {H : Hp} {b o : Nat} {l : List Value} (h : H.cells b o l) (n : Nat) : H.cells b (o + n) (l.drop n) := fun j v hj => by
  rw [List.getElem?_drop] at hj
  rw [Nat.add_assoc]
  exact h _ _ hj
theorem c_validTime (a d : Int) (H : Hp) (w : World) (hs : Sat H w) : Calls Tryz.prog 132 #[intV a, intV d] w (Ret w (.bool (whenOK a d))) := by
  refine T.enter (vs := [intV a, intV d]) (H := H) Tryz.func132 rfl rfl rfl hs ?_
  repeat (any_goals (first | refine T.seq ?_ | refine T.region ?_ | refine TL.nil ?_ | refine N.next ?_ | refine N.inBlock ?_ | refine N.exit_same ?_ | refine N.exit_then ?_ | refine N.ret_then ?_ | refine N.ret_block ?_ | (apply N.exit_other; rfl) | refine T.ret ?_ | refine T.skip ?_ | refine T.exit ?_ | refine T.block ?_ | (apply T.cond_true; rfl) | (apply T.cond_false; rfl) | (apply T.test; rfl; (exact isx); intro _; rotate_left; intro _; rotate_right) | (apply TL.skip; rfl; rfl; rfl) | (apply TL.skip_none; rfl; rfl) | (apply TL.val; rfl; rfl; (first | exact vpure | exact vread)) | (apply TL.x; rfl; rfl; (first | exact xgrow | exact xput); intro _ _) | (apply TL.guard; rfl; rfl; rfl; (exact isx); intro _; rotate_left; intro _; rotate_right)))
  all_goals (try (first | (apply N.ret_bool; rfl; (exact rvx)) | (apply N.ret_int; rfl; (exact rvx)) | (apply N.ret_val; rfl; (exact rvx))))
  all_goals (unfold whenOK; rw [Bool.eq_iff_iff]; simp only [Bool.and_eq_true, decide_eq_true_eq, Bool.false_eq_true, true_iff, false_iff, iff_true, iff_false]; omega)
theorem c_When (a d : Int) (H : Hp) (w : World) (hs : Sat H w) : Calls Tryz.prog 13 #[intV a, intV d] w (Ret w (.bool (whenOK a d))) := by
  refine T.enter (vs := [intV a, intV d]) (H := H) Tryz.func13 rfl rfl rfl hs ?_
  repeat (any_goals (first | refine T.seq ?_ | refine T.region ?_ | refine TL.nil ?_ | refine N.next ?_ | refine N.inBlock ?_ | refine N.exit_same ?_ | refine N.exit_then ?_ | refine N.ret_then ?_ | refine N.ret_block ?_ | (apply N.exit_other; rfl) | refine T.ret ?_ | refine T.skip ?_ | refine T.exit ?_ | refine T.block ?_ | (apply T.cond_true; rfl) | (apply T.cond_false; rfl) | (apply T.test; rfl; (exact isx); intro _; rotate_left; intro _; rotate_right) | (apply TL.skip; rfl; rfl; rfl) | (apply TL.skip_none; rfl; rfl) | (apply TL.val; rfl; rfl; (first | exact vpure | exact vread)) | (apply TL.x; rfl; rfl; (first | exact xgrow | exact xput); intro _ _) | (apply TL.guard; rfl; rfl; rfl; (exact isx); intro _; rotate_left; intro _; rotate_right)))
  all_goals (try (first | (apply N.ret_bool; rfl; (exact rvx)) | (apply N.ret_int; rfl; (exact rvx)) | (apply N.ret_val; rfl; (exact rvx))))
  all_goals (unfold whenOK; rw [Bool.eq_iff_iff]; simp only [Bool.and_eq_true, decide_eq_true_eq, Bool.false_eq_true, true_iff, false_iff, iff_true, iff_false]; omega)
theorem whenOK_iff {a d : Int} : whenOK a d = true ↔ (0 ≤ a ∧ a ≤ 10000000) ∧ 0 ≤ d ∧ d ≤ 1000 := by
  unfold whenOK
  simp only [Bool.and_eq_true, decide_eq_true_eq]
theorem c_Signed11 (s : Signed) (g : Sig) (kk : KeyC) (b5 b6 : Nat) (H : Hp) (w : World) (hs : Sat H w) (hR : Rules H) (hg : Enc.good H s) (hgg : Enc.good H g) (hk : Enc.good H kk) (h5 : H.cells b5 0 (enc s)) (h6 : H.cells b6 0 (enc g)) : Calls Tryz.prog 140 #[.agg (enc kk).toArray, .pointer (some ⟨b5, 0, none⟩), .pointer (some ⟨b6, 0, none⟩)] w (Ret w (.bool (checkC s.c.set g kk))) := by
  refine T.enter (vs := [.agg (enc kk).toArray, .pointer (some ⟨b5, 0, none⟩), .pointer (some ⟨b6, 0, none⟩)]) (H := H) Tryz.func140 rfl rfl rfl hs ?_
  have h5' : H.cells b5 (0 + 0) (enc s.set) := cells_take h5 4
  repeat (any_goals (first | refine T.seq ?_ | refine T.region ?_ | refine TL.nil ?_ | refine N.next ?_ | refine N.inBlock ?_ | refine N.exit_same ?_ | refine N.exit_then ?_ | refine N.ret_then ?_ | refine N.ret_block ?_ | (apply N.exit_other; rfl) | refine T.ret ?_ | refine T.skip ?_ | refine T.exit ?_ | refine T.block ?_ | (apply T.cond_true; rfl) | (apply T.cond_false; rfl) | (apply T.test; rfl; (exact isx); intro _; rotate_left; intro _; rotate_right) | (apply TL.skip; rfl; rfl; rfl) | (apply TL.skip_none; rfl; rfl) | (apply TL.val; rfl; rfl; (apply V.load_H_row; rfl; rfl; rfl; exact h5'; rfl)) | (apply TL.val; rfl; rfl; (apply V.load_H_row; rfl; rfl; rfl; exact h6; rfl)) | (apply TL.callE (f := 141) [.agg (enc s.set).toArray, .agg (enc g).toArray, .agg (enc kk).toArray] Tryz.call141; (iterate 4 rfl); (exact fun _ hs => c_Check s.set g kk _ _ hs.sat hR hg.1 hgg hk)) | (apply TL.val; rfl; rfl; (first | exact vpure | exact vread)) | (apply TL.x; rfl; rfl; (first | exact xgrow | exact xput); intro _ _) | (apply TL.guard; rfl; rfl; rfl; (exact isx); intro _; rotate_left; intro _; rotate_right)))
  all_goals (try (first | (apply N.ret_bool; rfl; (exact rvx)) | (apply N.ret_int; rfl; (exact rvx)) | (apply N.ret_val; rfl; (exact rvx))))
  rfl
theorem says_Signed11 {H : Hp} (s : Signed) (g : Sig) (b5 b6 : Nat) (hR : Rules H) (hg : Enc.good H s) (hgg : Enc.good H g) (h5 : H.cells b5 0 (enc s)) (h6 : H.cells b6 0 (enc g)) {l : List KeyC} (hl : ∀ k ∈ l, Enc.good H k) : SaysOf H 140 #[.pointer (some ⟨b5, 0, none⟩), .pointer (some ⟨b6, 0, none⟩)] (fun k => checkC s.c.set g k) l := fun x hx w hs => by
  simpa using c_Signed11 s g x b5 b6 H w hs hR hg hgg (hl x hx) h5 h6
def goodSig (s : SignedC) (zone : Bytes) (keys : List KeyC) (at_ drift : Int) (g : Sig) : Bool := inTime g zone at_ drift && keys.any fun k => checkC s.set g k
theorem c_Signed1 (s : Signed) (zone : Bytes) (keys : Slc KeyC) (at_ drift : Int) (g : Sig) (b1 b2 b3 b4 b5 : Nat) (H : Hp) (w : World) (hs : Sat H w) (hR : Rules H) (hg : Enc.good H s) (hgg : Enc.good H g) (hk : keys.Good H) (hw : whenOK at_ drift = true)
    (h1 : H.cells b1 0 [strV zone]) (h2 : H.cells b2 0 [intV at_]) (h3 : H.cells b3 0 [intV drift]) (h4 : H.cells b4 0 [keys.v]) (h5 : H.cells b5 0 (enc s)) :
    Calls Tryz.prog 138 #[.agg (enc g).toArray, .pointer (some ⟨b1, 0, none⟩), .pointer (some ⟨b2, 0, none⟩), .pointer (some ⟨b3, 0, none⟩), .pointer (some ⟨b4, 0, none⟩), .pointer (some ⟨b5, 0, none⟩)] w (Ret w (.bool (goodSig s.c zone keys.els at_ drift g))) := by
  obtain ⟨w1, w2⟩ := whenOK_iff.1 hw
  refine T.enter (vs := [.agg (enc g).toArray, .pointer (some ⟨b1, 0, none⟩), .pointer (some ⟨b2, 0, none⟩), .pointer (some ⟨b3, 0, none⟩), .pointer (some ⟨b4, 0, none⟩), .pointer (some ⟨b5, 0, none⟩)]) (H := H) Tryz.func138 rfl rfl rfl hs ?_
  repeat (any_goals (first | refine T.seq ?_ | refine T.region ?_ | refine TL.nil ?_ | refine N.next ?_ | refine N.inBlock ?_ | refine N.exit_same ?_ | refine N.exit_then ?_ | refine N.ret_then ?_ | refine N.ret_block ?_ | (apply N.exit_other; rfl) | refine T.ret ?_ | refine T.skip ?_ | refine T.exit ?_ | refine T.block ?_ | (apply T.cond_true; rfl) | (apply T.cond_false; rfl) | (apply T.test; rfl; (exact isx); intro _; rotate_left; intro _; rotate_right) | (apply TL.skip; rfl; rfl; rfl) | (apply TL.skip_none; rfl; rfl) | (apply TL.x; rfl; rfl; (apply X.box; rfl; rfl; rfl); intro b6 _; apply TL.frz 0; rfl; intro H2 h6 hle; have k1 := h1.le hle; have k2 := h2.le hle; have k3 := h3.le hle; have k4 := h4.le hle; have k5 := h5.le hle; have m1 : H2.cells b6 (0 + 0) [strV g.zone] := cells_take h6 1; have m3 : H2.cells b6 (0 + 3) [intV g.frm] := cells_take (cells_drop h6 3) 1; have m4 : H2.cells b6 (0 + 4) [intV g.til] := cells_take (cells_drop h6 4) 1) | (apply TL.val; rfl; rfl; (apply V.load_H; rfl; rfl; rfl; (first | exact k1 0 _ rfl | exact k2 0 _ rfl | exact k3 0 _ rfl | exact k4 0 _ rfl | exact m1 0 _ rfl | exact m3 0 _ rfl | exact m4 0 _ rfl))) | (apply TL.val; rfl; rfl; ((apply V.makeFunc (vs := []) (us := [_, _]) <;> rfl))) | (apply TL.callE (f := 139) [keys.v, .func (.func 140) #[] #[.pointer (some ⟨b5, 0, none⟩), .pointer (some ⟨b6, 0, none⟩)]] Tryz.call139; (iterate 4 rfl); (exact fun _ hs => c_firstKey keys _ Tryz.call140 _ _ hs.sat (hk.mono hle) (says_Signed11 s g b5 b6 (Rules.mono hle hR) (Enc.mono hle hg) (Enc.mono hle hgg) k5 h6 (hk.mono hle).els))) | (apply TL.x; rfl; rfl; (apply X.storeTo 0 (enc ((keys.els.find? (fun k => checkC s.c.set g k)).getD keyNil)); (iterate 10 rfl)); intro _ _) | (apply TL.val; rfl; rfl; (first | exact vpure | exact vread)) | (apply TL.x; rfl; rfl; (first | exact xgrow | exact xput); intro _ _) | (apply TL.guard; rfl; rfl; rfl; (exact isx); intro _; rotate_left; intro _; rotate_right)))
  all_goals (try (first | (apply N.ret_bool; rfl; (exact rvx)) | (apply N.ret_int; rfl; (exact rvx)) | (apply N.ret_val; rfl; (exact rvx))))
  all_goals (unfold goodSig inTime)
  all_goals first
    | (rw [decide_eq_false (show ¬ g.zone = zone by assumption)]; simp; done)
    | (rw [decide_eq_false (show ¬ g.frm ≤ at_ - drift by omega)]; simp; done)
    | (rw [decide_eq_false (show ¬ at_ + drift ≤ g.til by omega)]; simp; done)
    | (rw [decide_eq_true (show g.zone = zone by assumption), decide_eq_true (show g.frm ≤ at_ - drift by omega), decide_eq_true (show at_ + drift ≤ g.til by omega), find_any]; rfl)
theorem signedBy_find (s : SignedC) (zone : Bytes) (keys : List KeyC) (at_ drift : Int) (hw : whenOK at_ drift = true) : (s.sigs.find? (goodSig s zone keys at_ drift)).isSome = signedBy s zone keys at_ drift := by
  rw [find_any]
  unfold signedBy
  rw [hw, Bool.true_and]
  rfl
theorem says_Signed1 {H : Hp} (s : Signed) (zone : Bytes) (keys : Slc KeyC) (at_ drift : Int) (b1 b2 b3 b4 b5 : Nat) (hR : Rules H) (hg : Enc.good H s) (hk : keys.Good H) (hw : whenOK at_ drift = true)
    (h1 : H.cells b1 0 [strV zone]) (h2 : H.cells b2 0 [intV at_]) (h3 : H.cells b3 0 [intV drift]) (h4 : H.cells b4 0 [keys.v]) (h5 : H.cells b5 0 (enc s)) {l : List Sig} (hl : ∀ k ∈ l, Enc.good H k) : SaysOf H 138 #[.pointer (some ⟨b1, 0, none⟩), .pointer (some ⟨b2, 0, none⟩), .pointer (some ⟨b3, 0, none⟩), .pointer (some ⟨b4, 0, none⟩), .pointer (some ⟨b5, 0, none⟩)] (goodSig s.c zone keys.els at_ drift) l := fun x hx w hs => by
  simpa using c_Signed1 s zone keys at_ drift x b1 b2 b3 b4 b5 H w hs hR hg (hl x hx) hk hw h1 h2 h3 h4 h5
theorem c_trustSigned (s : Signed) (zone : Bytes) (keys : Slc KeyC) (at_ drift : Int) (H : Hp) (w : World) (hs : Sat H w) (hR : Rules H) (hg : Enc.good H s) (hk : keys.Good H) : Calls Tryz.prog 96 #[.agg (enc s).toArray, strV zone, keys.v, intV at_, intV drift] w (Ret w (.bool (signedBy s.c zone keys.els at_ drift))) := by
  refine T.enter (vs := [.agg (enc s).toArray, strV zone, keys.v, intV at_, intV drift]) (H := H) Tryz.func96 rfl rfl rfl hs ?_
  cases hw : whenOK at_ drift with
  | false =>
    repeat (any_goals (first | refine T.seq ?_ | refine T.region ?_ | refine TL.nil ?_ | refine N.next ?_ | refine N.inBlock ?_ | refine N.exit_same ?_ | refine N.exit_then ?_ | refine N.ret_then ?_ | refine N.ret_block ?_ | (apply N.exit_other; rfl) | refine T.ret ?_ | refine T.skip ?_ | refine T.exit ?_ | refine T.block ?_ | (apply T.cond_true; rfl) | (apply T.cond_false; rfl) | (apply T.test; rfl; (exact isx); intro _; rotate_left; intro _; rotate_right) | (apply TL.skip; rfl; rfl; rfl) | (apply TL.skip_none; rfl; rfl) | (apply TL.callE (f := 132) [intV at_, intV drift] Tryz.call132; (iterate 4 rfl); (exact fun _ hs => hw ▸ c_validTime at_ drift _ _ hs.sat)) | (apply TL.val; rfl; rfl; (first | exact vpure | exact vread)) | (apply TL.x; rfl; rfl; (first | exact xgrow | exact xput); intro _ _) | (apply TL.guard; rfl; rfl; rfl; (exact isx); intro _; rotate_left; intro _; rotate_right)))
    all_goals (try (first | (apply N.ret_bool; rfl; (exact rvx)) | (apply N.ret_int; rfl; (exact rvx)) | (apply N.ret_val; rfl; (exact rvx))))
    unfold signedBy
    rw [hw]; rfl
  | true =>
    repeat (any_goals (first | refine T.seq ?_ | refine T.region ?_ | refine TL.nil ?_ | refine N.next ?_ | refine N.inBlock ?_ | refine N.exit_same ?_ | refine N.exit_then ?_ | refine N.ret_then ?_ | refine N.ret_block ?_ | (apply N.exit_other; rfl) | refine T.ret ?_ | refine T.skip ?_ | refine T.exit ?_ | refine T.block ?_ | (apply T.cond_true; rfl) | (apply T.cond_false; rfl) | (apply T.test; rfl; (exact isx); intro _; rotate_left; intro _; rotate_right) | (apply TL.skip; rfl; rfl; rfl) | (apply TL.skip_none; rfl; rfl) | (apply TL.callE (f := 132) [intV at_, intV drift] Tryz.call132; (iterate 4 rfl); (exact fun _ hs => hw ▸ c_validTime at_ drift _ _ hs.sat)) | (apply TL.val; rfl; rfl; ((apply V.makeFunc (vs := []) (us := [_, _, _, _, _]) <;> rfl)); apply TL.frz 0; rfl; intro H1 z3 hl1; apply TL.frz 0; rfl; intro H2 z2 hl2; apply TL.frz 0; rfl; intro H3 z4 hl3; apply TL.frz 0; rfl; intro H4 z1 hl4; apply TL.frz 0; rfl; intro H5 z5 hl5; have k3 := (((z3.le hl2).le hl3).le hl4).le hl5; have k2 := ((z2.le hl3).le hl4).le hl5; have k4 := (z4.le hl4).le hl5; have k1 := z1.le hl5; have hle := (((hl1.trans hl2).trans hl3).trans hl4).trans hl5; have hg5 := Enc.mono hle hg; have hR5 := Rules.mono hle hR; have hk5 := hk.mono hle) | (apply TL.callE (f := 137) [s.sigs.v, .func (.func 138) #[] #[_, _, _, _, _]] Tryz.call137; (iterate 4 rfl); (exact fun _ hs => c_firstSig s.sigs _ Tryz.call138 _ _ hs.sat hg5.2 (says_Signed1 s zone keys at_ drift _ _ _ _ _ hR5 hg5 hk5 hw k1 k2 k3 k4 z5 hg5.2.els))) | (apply TL.x; rfl; rfl; (apply X.storeTo 0 (enc ((s.sigs.els.find? (goodSig s.c zone keys.els at_ drift)).getD sigNil)); (iterate 10 rfl)); intro _ _) | (apply TL.val; rfl; rfl; (first | exact vpure | exact vread)) | (apply TL.x; rfl; rfl; (first | exact xgrow | exact xput); intro _ _) | (apply TL.guard; rfl; rfl; rfl; (exact isx); intro _; rotate_left; intro _; rotate_right)))
    all_goals (try (first | (apply N.ret_bool; rfl; (exact rvx)) | (apply N.ret_int; rfl; (exact rvx)) | (apply N.ret_val; rfl; (exact rvx))))
    exact signedBy_find s.c zone keys.els at_ drift hw
theorem c_keysOf (s : RSet) (H : Hp) (w : World) (hs : Sat H w) (hg : Enc.good H s) (hm : s.data.len ≤ 1000) : Calls Tryz.prog 181 #[.agg (enc s).toArray] w (RetF w H (fun p : Hp × Slc KeyC => p.2.els = keysOf s.c ∧ p.2.Good p.1) (fun p => p.2.v) (fun p => p.1)) := by
  have hd := hg.2.2.2
  have hlen := hd.len
  refine T.enter (vs := [.agg (enc s).toArray]) (H := H) Tryz.func181 rfl rfl rfl hs ?_
  repeat (any_goals (first | refine T.seq ?_ | refine T.region ?_ | refine TL.nil ?_ | refine N.next ?_ | refine N.inBlock ?_ | refine N.exit_same ?_ | refine N.exit_then ?_ | refine N.ret_then ?_ | refine N.ret_block ?_ | (apply N.exit_other; rfl) | refine T.ret ?_ | refine T.skip ?_ | refine T.exit ?_ | refine T.block ?_ | (apply T.cond_true; rfl) | (apply T.cond_false; rfl) | (apply T.test; rfl; (exact isx); intro _; rotate_left; intro _; rotate_right) | (apply TL.skip; rfl; rfl; rfl) | (apply TL.skip_none; rfl; rfl) | (apply TL.x; rfl; rfl; (apply X.makeSlice keyNil s.data.len; (iterate 10 rfl); (refine Nat.le_trans (Nat.mul_le_mul_left _ hm) ?_; decide); (show s.data.len ≤ 9223372036854775807; omega)); intro b5 _) | (apply TL.val; rfl; rfl; (first | exact vpure | exact vread)) | (apply TL.x; rfl; rfl; (first | exact xgrow | exact xput); intro _ _) | (apply TL.guard; rfl; rfl; rfl; (exact isx); intro _; rotate_left; intro _; rotate_right)))
  refine T.loop (G := Nat × List KeyC) (fun g => [(3, .slice (some ⟨b5, 0, none⟩) s.data.len s.data.len), (11, .slice s.data.A s.data.len s.data.cap), (12, intV s.data.len), (13, intV g.1)]) (fun _ => H) (fun g => [.row (.slice (some ⟨b5, 0, none⟩) s.data.len s.data.len) 115 2 s.data.len (encs g.2)])
    (fun g => g.1 ≤ s.data.len ∧ g.2.length = s.data.len ∧ ∀ j, j < g.1 → g.2[j]? = (keysOf s.c)[j]?) (fun g => s.data.len - g.1) (0, List.replicate s.data.len keyNil) ⟨Nat.zero_le _, by simp, fun j h => by omega⟩ (by (repeat (first | exact True.intro | refine ⟨rfl, ?_⟩ | refine Sub.int rfl (by omega) ?_))) rfl (by exact List.Sublist.cons_cons _ (List.nil_sublist _)) ?_
  rintro ⟨k, l⟩ ⟨hk, hl, hrel⟩
  simp only at hk hl hrel ⊢
  by_cases hlt : k < s.data.len
  · have hkk : k < s.data.els.length := by omega
    have hkl : k < l.length := by omega
    repeat (any_goals (first | refine T.seq ?_ | refine T.region ?_ | refine TL.nil ?_ | refine N.next ?_ | refine N.inBlock ?_ | refine N.exit_same ?_ | refine N.exit_then ?_ | refine N.ret_then ?_ | refine N.ret_block ?_ | (apply N.exit_other; rfl) | refine T.ret ?_ | refine T.skip ?_ | refine T.exit ?_ | refine T.block ?_ | (apply T.cond_true; rfl) | (apply T.cond_false; rfl) | (apply T.test; rfl; (exact isx); intro _; rotate_left; intro _; rotate_right) | (apply TL.skip; rfl; rfl; rfl) | (apply TL.skip_none; rfl; rfl) | (apply TL.x; rfl; rfl; (apply X.storeTo 0 (enc (s.data.els[k]'hkk)); (iterate 10 rfl)); intro _ _) | (apply TL.val; rfl; rfl; (apply V.build; (iterate 6 rfl))) | (apply TL.val; rfl; rfl; (apply V.elem (j := k); (iterate 6 rfl); exact hlt; rfl)) | (apply TL.val; rfl; rfl; (first | exact vpure | exact vread)) | (apply TL.x; rfl; rfl; (first | exact xgrow | exact xput); intro _ _) | (apply TL.guard; rfl; rfl; rfl; (exact isx); intro _; rotate_left; intro _; rotate_right)))
    all_goals (try (exfalso; omega))
    refine TL.x rfl rfl (X.storeRowE 1 (vs := enc (⟨(s.data.els[k]'hkk).n, (s.data.els[k]'hkk).m⟩ : KeyC)) (ys := encs (l.set k ⟨(s.data.els[k]'hkk).n, (s.data.els[k]'hkk).m⟩)) rfl rfl rfl rfl rfl rfl rfl (by show 0 + k * 2 + 2 ≤ s.data.len * 2; omega) (encs_put (j := 0) (vs := enc (⟨(s.data.els[k]'hkk).n, (s.data.els[k]'hkk).m⟩ : KeyC)) (y := ⟨(s.data.els[k]'hkk).n, (s.data.els[k]'hkk).m⟩) (x := l[k]) (List.getElem?_eq_getElem hkl) (show 0 + 2 ≤ 2 by omega) rfl (show 0 + k * 2 = k * 2 + 0 by omega))) ?_
    intro _ _
    repeat (any_goals (first | refine T.seq ?_ | refine T.region ?_ | refine TL.nil ?_ | refine N.next ?_ | refine N.inBlock ?_ | refine N.exit_same ?_ | refine N.exit_then ?_ | refine N.ret_then ?_ | refine N.ret_block ?_ | (apply N.exit_other; rfl) | refine T.ret ?_ | refine T.skip ?_ | refine T.exit ?_ | refine T.block ?_ | (apply T.cond_true; rfl) | (apply T.cond_false; rfl) | (apply T.test; rfl; (exact isx); intro _; rotate_left; intro _; rotate_right) | (apply TL.skip; rfl; rfl; rfl) | (apply TL.skip_none; rfl; rfl) | (apply TL.val; rfl; rfl; (first | exact vpure | exact vread)) | (apply TL.x; rfl; rfl; (first | exact xgrow | exact xput); intro _ _) | (apply TL.guard; rfl; rfl; rfl; (exact isx); intro _; rotate_left; intro _; rotate_right)))
    refine N.round (k + 1, l.set k ⟨(s.data.els[k]'hkk).n, (s.data.els[k]'hkk).m⟩) ⟨by show k + 1 ≤ _; omega, by simp [hl], fun j hj => ?_⟩ (by show s.data.len - (k + 1) < s.data.len - k; omega) (by (repeat (first | exact True.intro | refine ⟨rfl, ?_⟩ | refine Sub.int rfl (by omega) ?_))) rfl (by (first | exact List.Sublist.refl _ | exact List.nil_sublist _ | exact List.Sublist.cons _ (List.Sublist.refl _) | exact List.Sublist.cons _ (List.Sublist.cons _ (List.Sublist.refl _))))
    by_cases hjk : j = k
    · subst hjk
      rw [List.getElem?_set_self hkl, keysOf, List.getElem?_map]
      rw [show s.c.data[j]? = some (s.data.els[j]'hkk) from List.getElem?_eq_getElem hkk]
      rfl
    · rw [List.getElem?_set_ne (by omega)]
      exact hrel j (by simp only at hj; omega)
  · have hke : k = s.data.len := by omega
    subst hke
    have hle : l = keysOf s.c := by
      apply List.ext_getElem?
      intro j
      by_cases hj : j < s.data.len
      · exact hrel j hj
      · rw [List.getElem?_eq_none (by omega), List.getElem?_eq_none (by rw [keysOf, List.length_map]; show s.data.els.length ≤ j; omega)]
    repeat (any_goals (first | refine T.seq ?_ | refine T.region ?_ | refine TL.nil ?_ | refine N.next ?_ | refine N.inBlock ?_ | refine N.exit_same ?_ | refine N.exit_then ?_ | refine N.ret_then ?_ | refine N.ret_block ?_ | (apply N.exit_other; rfl) | refine T.ret ?_ | refine T.skip ?_ | refine T.exit ?_ | refine T.block ?_ | (apply T.cond_true; rfl) | (apply T.cond_false; rfl) | (apply T.test; rfl; (exact isx); intro _; rotate_left; intro _; rotate_right) | (apply TL.skip; rfl; rfl; rfl) | (apply TL.skip_none; rfl; rfl) | (apply TL.val; rfl; rfl; (first | exact vpure | exact vread)) | (apply TL.x; rfl; rfl; (first | exact xgrow | exact xput); intro _ _) | (apply TL.guard; rfl; rfl; rfl; (exact isx); intro _; rotate_left; intro _; rotate_right)))
    all_goals (try (exfalso; omega))
    apply N.ret1; rfl; (exact rvx)
    intro w1 hst
    obtain ⟨H2, s2, e1, e2, e3, e4, e5⟩ := hst.freezeRow (α := KeyC) rfl hl (fun x hx => by
      rw [hle] at hx
      obtain ⟨d, hd1, rfl⟩ := List.mem_map.1 hx
      exact ⟨(hd.els d hd1).2.1, (hd.els d hd1).2.2⟩)
    exact ⟨(H2, s2), ⟨e2.trans hle, e3⟩, by rw [← e1], e5.fresh⟩
end Go.Proofs.YtpnoabbdcakjkaaGreatDoor
