/- Walks: the reader of messages: numbers into places, signatures. -/
import Derived.Test.YtogcofeencgipaaGreatDoorSPK
namespace Go.Proofs.YtogcofeencgipaaGreatDoor
set_option linter.unusedVariables false
set_option linter.unusedSimpArgs false
open Go Go.RowKit
set_option maxRecDepth 20000
/-- Numbers at their places. -/
def fills : List Value → List Nat → List Int → List Value
  | cs, o :: os, x :: xs => fills (cs.set o (intV x)) os xs
  | cs, _, _ => cs
theorem fills_len : ∀ (cs : List Value) (os : List Nat) (xs : List Int), (fills cs os xs).length = cs.length
  | cs, [], xs => by cases xs <;> rfl
  | cs, o :: os, [] => rfl
  | cs, o :: os, x :: xs => by
    show (fills (cs.set o (intV x)) os xs).length = _
    rw [fills_len, List.length_set]
theorem fills_snoc : ∀ (cs : List Value) (os : List Nat) (xs : List Int) (o : Nat) (x : Int), os[xs.length]? = some o → fills cs os (xs ++ [x]) = (fills cs os xs).set o (intV x)
  | cs, [], xs, o, x, h => by simp at h
  | cs, q :: os, [], o, x, h => by
    simp only [List.length_nil, List.getElem?_cons_zero, Option.some.injEq] at h
    subst h
    cases os <;> rfl
  | cs, q :: os, y :: xs, o, x, h => by
    show fills (cs.set q (intV y)) os (xs ++ [x]) = (fills (cs.set q (intV y)) os xs).set o (intV x)
    exact fills_snoc _ _ _ _ _ (by simpa using h)
theorem rdN_snoc {α : Type} {c : Cod α} {l r r' : Bytes} {k : Nat} {xs : List α} {x : α} (h : c.rdN k l = some (xs, r)) (hx : c.rd r = some (x, r')) : c.rdN (k + 1) l = some (xs ++ [x], r') := by
  rw [rdN_succ, h]
  simp only [Option.bind_some]
  rw [hx]
  rfl
theorem rdN_end {α : Type} {c : Cod α} {l r : Bytes} {k n : Nat} {xs : List α} (h : c.rdN k l = some (xs, r)) (hx : c.rd r = none) (hn : k < n) : c.rdN n l = none := by
  refine rdN_none (k := k + 1) ?_ hn
  rw [rdN_succ, h]
  simp only [Option.bind_some]
  rw [hx]
  rfl
abbrev plL (bp m : Nat) (os : List Nat) : Loc := .blk bp 169 (os.map fun o => .pointer (some ⟨m, o, none⟩))
section
variable {w0 w : World} {H0 H : Hp} {L : List Loc} {b m bp : Nat}
set_option maxHeartbeats 2000000 in
theorem c_fill {os : List Nat} {mt : TypeId} {cs : List Value} {r : Loc} {s : Slc UInt8} (hs : St w0 H0 H (plL bp m os :: .blk m mt cs :: r :: pkL b s :: L) w) (hg : s.Good H) (hl : os.length ≤ 8) (hos : ∀ o ∈ os, o < cs.length) : CallsIn (FW none) 0 Tryz.prog 118 #[.func (.func 119) #[.pointer (some ⟨b, 0, none⟩)] #[], .slice (some ⟨bp, 0, none⟩) os.length os.length] w (fun e w' =>
    (∃ g : List Int × Slc UInt8, (numCod.rdN os.length s.els = some (g.1, g.2.els) ∧ g.1.length = os.length ∧ g.2.Good H ∧ ∀ x ∈ g.1, I64 x) ∧ e = .returned (.tuple #[]) ∧ St w0 H0 H (plL bp m os :: .blk m mt (fills cs os g.1) :: r :: pkL b g.2 :: L) w') ∨
    (∃ g : List Value × Slc UInt8, numCod.rdN os.length s.els = none ∧ e = .panicked Pan ∧ St w0 H0 H (plL bp m os :: .blk m mt g.1 :: r :: pkL b g.2 :: L) w')) := by
  refine T.enterIn (vs := [.func (.func 119) #[.pointer (some ⟨b, 0, none⟩)] #[], .slice (some ⟨bp, 0, none⟩) os.length os.length]) Tryz.func118 rfl rfl rfl hs ?_
  repeat (any_goals (first | refine T.seq ?_ | refine T.region ?_ | refine TL.nil ?_ | refine N.next ?_ | refine N.inBlock ?_ | refine N.exit_same ?_ | refine N.exit_then ?_ | refine N.ret_then ?_ | refine N.ret_block ?_ | (apply N.exit_other; rfl) | refine T.ret ?_ | refine T.skip ?_ | refine T.exit ?_ | refine T.block ?_ | (apply T.cond_true; rfl) | (apply T.cond_false; rfl) | (apply T.test; rfl; (with_reducible (first | exact Is.ndec | exact Is.dec | exact Is.not | ((fail_if_success exact Is.litT); (fail_if_success exact Is.litF); exact Is.base))); intro _; rotate_left; intro _; rotate_right) | (apply TL.skip; rfl; rfl; rfl) | (apply TL.skip_none; rfl; rfl) | (apply TL.val; rfl; rfl; (first | exact vpure | exact vread)) | (apply TL.x; rfl; rfl; (first | exact xgrow | exact xput); intro _ _) | (apply TL.guard; rfl; rfl; rfl; (with_reducible (first | exact Is.ndec | exact Is.dec | exact Is.not | ((fail_if_success exact Is.litT); (fail_if_success exact Is.litF); exact Is.base))); intro _; rotate_left; intro _; rotate_right)))
  refine T.loop (G := List Int × Slc UInt8) (fun g => [(0, .func (.func 119) #[.pointer (some ⟨b, 0, none⟩)] #[]), (6, .slice (some ⟨bp, 0, none⟩) os.length os.length), (7, intV os.length), (8, intV g.1.length)]) (fun _ => H) (fun g => plL bp m os :: .blk m mt (fills cs os g.1) :: r :: pkL b g.2 :: L) (fun g => g.1.length ≤ os.length ∧ numCod.rdN g.1.length s.els = some (g.1, g.2.els) ∧ g.2.Good H ∧ ∀ x ∈ g.1, I64 x) (fun g => os.length - g.1.length) ([], s) ⟨Nat.zero_le _, rfl, hg, by simp⟩ (by (repeat (first | exact True.intro | refine ⟨rfl, ?_⟩ | refine Sub.int rfl (by omega) ?_))) rfl (by cases os <;> exact List.Sublist.refl _) ?_
  rintro ⟨xs, t⟩ ⟨hk, hr, hgt, hxs⟩
  simp only at hk hr hgt hxs ⊢
  by_cases hlt : xs.length < os.length
  · have hol := hos _ (List.getElem_mem hlt)
    have hog : os[xs.length]? = some os[xs.length] := List.getElem?_eq_getElem hlt
    have hpl : (os.map fun o => Value.pointer (some ⟨m, o, none⟩))[xs.length]? = some (.pointer (some ⟨m, os[xs.length], none⟩)) := by rw [List.getElem?_map, hog]; rfl
    generalize os[xs.length] = o at hol hog hpl
    have hpl2 : (os.map fun o => Value.pointer (some ⟨m, o, none⟩))[0 + xs.length * 1]? = some (.pointer (some ⟨m, o, none⟩)) := by rw [show 0 + xs.length * 1 = xs.length by omega]; exact hpl
    have hfl := fills_len cs os xs
    repeat (any_goals (first | refine T.seq ?_ | refine T.region ?_ | refine TL.nil ?_ | refine N.next ?_ | refine N.inBlock ?_ | refine N.exit_same ?_ | refine N.exit_then ?_ | refine N.ret_then ?_ | refine N.ret_block ?_ | (apply N.exit_other; rfl) | refine T.ret ?_ | refine T.skip ?_ | refine T.exit ?_ | refine T.block ?_ | (apply T.cond_true; rfl) | (apply T.cond_false; rfl) | (apply T.test; rfl; (with_reducible (first | exact Is.ndec | exact Is.dec | exact Is.not | ((fail_if_success exact Is.litT); (fail_if_success exact Is.litF); exact Is.base))); intro _; rotate_left; intro _; rotate_right) | (apply TL.skip; rfl; rfl; rfl) | (apply TL.skip_none; rfl; rfl) | (apply TL.val; rfl; rfl; (apply V.elem (j := xs.length); rfl; rfl; rfl; rfl; rfl; rfl; exact hlt; rfl)) | (apply TL.val; rfl; rfl; (apply V.load_loc (v := .pointer (some ⟨m, o, none⟩)); rfl; rfl; rfl; exact List.Mem.head _; exact hpl2)) | (apply TL.callPB [.pointer (some ⟨b, 0, none⟩)] (d := 14) (f := 119); rfl; rfl; rfl; rfl; rfl; exact Tryz.call119; exact (fun _ hs => CallsIn.atP 3 hs rfl fun hs => c_number hs hgt); (intro p hp; (repeat (first | refine N.panic_then ?_ | refine N.panic_block ?_)); (exact N.panic_end fun w hst => .inr ⟨(fills cs os xs, p), rdN_end hr hp hlt, rfl, hst⟩)); intro p hp; skip) | (apply TL.val; rfl; rfl; (apply V.nilCheck; rfl)) | (apply TL.x; rfl; rfl; (apply X.storeTo 1 ((fills cs os xs).set o (intV p.1)); rfl; rfl; rfl; rfl; rfl; rfl; rfl; (exact Nat.ble_eq_true_of_le (by rw [hfl]; exact hol)); rfl; rfl); intro _ _) | (apply TL.val; rfl; rfl; (first | exact vpure | exact vread)) | (apply TL.x; rfl; rfl; (first | exact xgrow | exact xput); intro _ _) | (apply TL.guard; rfl; rfl; rfl; (with_reducible (first | exact Is.ndec | exact Is.dec | exact Is.not | ((fail_if_success exact Is.litT); (fail_if_success exact Is.litF); exact Is.base))); intro _; rotate_left; intro _; rotate_right)))
    all_goals (try (exfalso; omega))
    refine N.round (xs ++ [p.1], p.2) ?_ ?_ ?_ ?_ ?_
    · refine ⟨by simp; omega, by simp only [List.length_append, List.length_cons, List.length_nil]; exact rdN_snoc hr hp.1, hp.2.1, fun x hx => ?_⟩
      rcases List.mem_append.1 hx with h | h
      · exact hxs x h
      · rw [List.mem_singleton.1 h]; exact hp.2.2
    · show os.length - (xs ++ [p.1]).length < os.length - xs.length
      simp; omega
    · simp only [List.length_append, List.length_cons, List.length_nil]
      (repeat (first | exact True.intro | refine ⟨rfl, ?_⟩ | refine Sub.int rfl (by omega) ?_))
    · rfl
    · simp only [fills_snoc cs os xs o p.1 hog]
      exact List.Sublist.refl _
  · have hk8 : xs.length = os.length := by omega
    repeat (any_goals (first | refine T.seq ?_ | refine T.region ?_ | refine TL.nil ?_ | refine N.next ?_ | refine N.inBlock ?_ | refine N.exit_same ?_ | refine N.exit_then ?_ | refine N.ret_then ?_ | refine N.ret_block ?_ | (apply N.exit_other; rfl) | refine T.ret ?_ | refine T.skip ?_ | refine T.exit ?_ | refine T.block ?_ | (apply T.cond_true; rfl) | (apply T.cond_false; rfl) | (apply T.test; rfl; (with_reducible (first | exact Is.ndec | exact Is.dec | exact Is.not | ((fail_if_success exact Is.litT); (fail_if_success exact Is.litF); exact Is.base))); intro _; rotate_left; intro _; rotate_right) | (apply TL.skip; rfl; rfl; rfl) | (apply TL.skip_none; rfl; rfl) | (apply TL.val; rfl; rfl; (first | exact vpure | exact vread)) | (apply TL.x; rfl; rfl; (first | exact xgrow | exact xput); intro _ _) | (apply TL.guard; rfl; rfl; rfl; (with_reducible (first | exact Is.ndec | exact Is.dec | exact Is.not | ((fail_if_success exact Is.litT); (fail_if_success exact Is.litF); exact Is.base))); intro _; rotate_left; intro _; rotate_right)))
    all_goals (try (exfalso; omega))
    rw [hk8] at hr
    exact N.end0 rfl fun w hst => .inl ⟨(xs, t), ⟨hr, hk8, hgt, hxs⟩, rfl, hst⟩
end
end Go.Proofs.YtogcofeencgipaaGreatDoor
