/- Walks: the reader of messages, its small parts. -/
import Derived.Test.YtogcofeencgipaaGreatDoorSPI
namespace Go.Proofs.YtogcofeencgipaaGreatDoor
set_option linter.unusedVariables false
set_option linter.unusedSimpArgs false
open Go Go.RowKit
set_option maxRecDepth 20000
/-- What a reader's panic carries. -/
def Pan : List PanicEntry := [{ v := .iface 208 (.agg #[]), recovered := false }]
abbrev pkL (b : Nat) (s : Slc UInt8) : Loc := .blk b 107 [s.v]
/-- A reader's call: it returns what stands at the beginning of the rest, or it panics. -/
abbrev RdP {α : Type} (w0 : World) (H0 H : Hp) (b : Nat) (L : List Loc) (rd : Bytes → Option (α × Bytes)) (ok : α → Prop) (l : Bytes) (val : α → Value) : Ending → World → Prop := fun e w' =>
  (∃ g : α × Slc UInt8, (rd l = some (g.1, g.2.els) ∧ g.2.Good H ∧ ok g.1) ∧ e = .returned (val g.1) ∧ St w0 H0 H (pkL b g.2 :: L) w') ∨ (∃ s' : Slc UInt8, rd l = none ∧ e = .panicked Pan ∧ St w0 H0 H (pkL b s' :: L) w')
section
variable {P : Program} {w0 w : World} {H0 H : Hp} {L : List Loc}
/-- A contract for the head of the call's own, at any place; it may panic. -/
theorem CallsIn.atP {f : FuncId} {args : Array Value} {chain : List PanicEntry} {G G' : Type} {φ : G → Prop} {ψ : G' → Prop} {v : G → Value} {HH : G → Hp} {HP : G' → Hp} {e : Loc} {e' : G → Loc} {e'' : G' → Loc} (i : Nat) {w : World} (hs : St w0 H0 H L w) (hi : L[i]? = some e)
    (h : St w0 H0 H (e :: L.eraseIdx i) w → CallsIn (FW none) 0 P f args w (fun en w' => (∃ g, φ g ∧ en = .returned (v g) ∧ St w0 H0 (HH g) (e' g :: L.eraseIdx i) w') ∨ (∃ g, ψ g ∧ en = .panicked chain ∧ St w0 H0 (HP g) (e'' g :: L.eraseIdx i) w'))) :
    CallsIn (FW none) 0 P f args w (fun en w' => (∃ g, φ g ∧ en = .returned (v g) ∧ St w0 H0 (HH g) (L.set i (e' g)) w') ∨ (∃ g, ψ g ∧ en = .panicked chain ∧ St w0 H0 (HP g) (L.set i (e'' g)) w')) := by
  have hlt : i < L.length := (List.getElem?_eq_some_iff.1 hi).1
  have key : ∀ x : Loc, (x :: L.eraseIdx i).Perm (L.set i x) := fun x => by
    have := perm_of (l := L.set i x) (i := i) (x := x) (by simp [hlt])
    rw [List.eraseIdx_set_eq] at this
    exact this.symm
  refine CallsIn.mono (h (hs.perm (perm_of hi))) fun en w' hc => ?_
  rcases hc with ⟨g, h1, h2, h3⟩ | ⟨g, h1, h2, h3⟩
  · exact .inl ⟨g, h1, h2, h3.perm (key _)⟩
  · exact .inr ⟨g, h1, h2, h3.perm (key _)⟩
end
section
variable {w0 w : World} {H0 H : Hp} {L : List Loc} {b : Nat}
theorem c_wordOf (q : Slc UInt8) (H : Hp) (w : World) (hs : Sat H w) (hg8 : q.Good H) (hl8 : q.els.length = 8) : Calls Tryz.prog 57 #[q.v] w (Ret w (.int .u64 ((wordOf q.els : Nat) : Int))) := by
  have hqv : q.len = 8 := by rw [← hg8.len, hl8]
  refine T.enter (vs := [q.v]) (H := H) Tryz.func57 rfl rfl rfl hs ?_
  repeat (any_goals (first | refine T.seq ?_ | refine T.region ?_ | refine TL.nil ?_ | refine N.next ?_ | refine N.inBlock ?_ | refine N.exit_same ?_ | refine N.exit_then ?_ | refine N.ret_then ?_ | refine N.ret_block ?_ | (apply N.exit_other; rfl) | refine T.ret ?_ | refine T.skip ?_ | refine T.exit ?_ | refine T.block ?_ | (apply T.cond_true; rfl) | (apply T.cond_false; rfl) | (apply T.test; rfl; (with_reducible (first | exact Is.ndec | exact Is.dec | exact Is.not | ((fail_if_success exact Is.litT); (fail_if_success exact Is.litF); exact Is.base))); intro _; rotate_left; intro _; rotate_right) | (apply TL.skip; rfl; rfl; rfl) | (apply TL.skip_none; rfl; rfl) | (apply TL.val; rfl; rfl; (first | exact vpure | exact vread)) | (apply TL.x; rfl; rfl; (first | exact xgrow | exact xput); intro _ _) | (apply TL.guard; rfl; rfl; rfl; (with_reducible (first | exact Is.ndec | exact Is.dec | exact Is.not | ((fail_if_success exact Is.litT); (fail_if_success exact Is.litF); exact Is.base))); intro _; rotate_left; intro _; rotate_right)))
  refine T.loop (G := Nat) (fun k => [(3, .int .u64 ((wordOf (q.els.take k) : Nat) : Int)), (6, q.v), (7, intV 8), (8, intV k)]) (fun _ => H) (fun _ => []) (fun k => k ≤ 8) (fun k => 8 - k) 0 (by decide) (by (repeat (first | exact True.intro | refine ⟨rfl, ?_⟩ | refine Sub.int rfl (by omega) ?_))) rfl (List.Sublist.refl _) ?_
  rintro k hk
  simp only at hk ⊢
  by_cases hlt : k < 8
  · have hkq : k < q.els.length := by omega
    have hw := wordOf_lt k (q.els.take k) (by rw [List.length_take]; omega)
    have hw2 : wordOf (q.els.take k) * 256 < 18446744073709551616 := by
      have h1 : (256 : Nat) ^ k ≤ 256 ^ 7 := Nat.pow_le_pow_right (by decide) (by omega)
      have h2 : (256 : Nat) ^ 7 = 72057594037927936 := by decide
      omega
    have hc8 := (q.els[k]'hkq).toNat_lt
    repeat (any_goals (first | refine T.seq ?_ | refine T.region ?_ | refine TL.nil ?_ | refine N.next ?_ | refine N.inBlock ?_ | refine N.exit_same ?_ | refine N.exit_then ?_ | refine N.ret_then ?_ | refine N.ret_block ?_ | (apply N.exit_other; rfl) | refine T.ret ?_ | refine T.skip ?_ | refine T.exit ?_ | refine T.block ?_ | (apply T.cond_true; rfl) | (apply T.cond_false; rfl) | (apply T.test; rfl; (with_reducible (first | exact Is.ndec | exact Is.dec | exact Is.not | ((fail_if_success exact Is.litT); (fail_if_success exact Is.litF); exact Is.base))); intro _; rotate_left; intro _; rotate_right) | (apply TL.skip; rfl; rfl; rfl) | (apply TL.skip_none; rfl; rfl) | (apply TL.val; rfl; rfl; (apply V.shlN (j := 8); rfl; rfl; decide; exact hw2)) | (apply TL.val; rfl; rfl; (apply V.convW (r := .u64) (j := ((q.els[k]'hkq).toNat : Int)); rfl; rfl; rfl; rfl; exact IntWalk.u64_in _ (by omega))) | (apply TL.val; rfl; rfl; (apply V.orN (m := wordOf (q.els.take (k + 1))); rfl; rfl; exact hw2; omega; (rw [wordOf_take (List.getElem?_eq_getElem hkq)]; exact lor_byte _ _))) | (apply TL.val; rfl; rfl; (first | exact vpure | exact vread)) | (apply TL.x; rfl; rfl; (first | exact xgrow | exact xput); intro _ _) | (apply TL.guard; rfl; rfl; rfl; (with_reducible (first | exact Is.ndec | exact Is.dec | exact Is.not | ((fail_if_success exact Is.litT); (fail_if_success exact Is.litF); exact Is.base))); intro _; rotate_left; intro _; rotate_right)))
    all_goals (try (exfalso; omega))
    exact N.round (k + 1) (by show k + 1 ≤ 8; omega) (by show 8 - (k + 1) < 8 - k; omega) (by (repeat (first | exact True.intro | refine ⟨rfl, ?_⟩ | refine Sub.int rfl (by omega) ?_))) rfl (List.Sublist.refl _)
  · have hk8 : k = 8 := by omega
    subst hk8
    rw [List.take_of_length_le (by omega)]
    repeat (any_goals (first | refine T.seq ?_ | refine T.region ?_ | refine TL.nil ?_ | refine N.next ?_ | refine N.inBlock ?_ | refine N.exit_same ?_ | refine N.exit_then ?_ | refine N.ret_then ?_ | refine N.ret_block ?_ | (apply N.exit_other; rfl) | refine T.ret ?_ | refine T.skip ?_ | refine T.exit ?_ | refine T.block ?_ | (apply T.cond_true; rfl) | (apply T.cond_false; rfl) | (apply T.test; rfl; (with_reducible (first | exact Is.ndec | exact Is.dec | exact Is.not | ((fail_if_success exact Is.litT); (fail_if_success exact Is.litF); exact Is.base))); intro _; rotate_left; intro _; rotate_right) | (apply TL.skip; rfl; rfl; rfl) | (apply TL.skip_none; rfl; rfl) | (apply TL.val; rfl; rfl; (first | exact vpure | exact vread)) | (apply TL.x; rfl; rfl; (first | exact xgrow | exact xput); intro _ _) | (apply TL.guard; rfl; rfl; rfl; (with_reducible (first | exact Is.ndec | exact Is.dec | exact Is.not | ((fail_if_success exact Is.litT); (fail_if_success exact Is.litF); exact Is.base))); intro _; rotate_left; intro _; rotate_right)))
    all_goals (try (exfalso; omega))
    exact N.ret_val rfl (by (exact rvx)) rfl
theorem c_take {s : Slc UInt8} {n : Int} (hs : St w0 H0 H (pkL b s :: L) w) (hg : s.Good H) : CallsIn (FW none) 0 Tryz.prog 173 #[.pointer (some ⟨b, 0, none⟩), intV n] w (fun e w' => (∃ g : Slc UInt8 × Slc UInt8, (0 ≤ n ∧ takeR n.toNat s.els = some (g.1.els, g.2.els) ∧ g.1.Good H ∧ g.2.Good H) ∧ e = .returned g.1.v ∧ St w0 H0 H (pkL b g.2 :: L) w') ∨ (∃ _g : Unit, (n < 0 ∨ takeR n.toNat s.els = none) ∧ e = .panicked Pan ∧ St w0 H0 H (pkL b s :: L) w')) := by
  have hlim := hg.lim
  have hcap := hg.cap
  have hlen := hg.len
  refine T.enterIn (vs := [.pointer (some ⟨b, 0, none⟩), intV n]) Tryz.func173 rfl rfl rfl hs ?_
  by_cases hc : 0 ≤ n ∧ n ≤ s.len
  · have hn : n.toNat ≤ s.len := by omega
    repeat (any_goals (first | refine T.seq ?_ | refine T.region ?_ | refine TL.nil ?_ | refine N.next ?_ | refine N.inBlock ?_ | refine N.exit_same ?_ | refine N.exit_then ?_ | refine N.ret_then ?_ | refine N.ret_block ?_ | (apply N.exit_other; rfl) | refine T.ret ?_ | refine T.skip ?_ | refine T.exit ?_ | refine T.block ?_ | (apply T.cond_true; rfl) | (apply T.cond_false; rfl) | (apply T.test; rfl; (with_reducible (first | exact Is.ndec | exact Is.dec | exact Is.not | ((fail_if_success exact Is.litT); (fail_if_success exact Is.litF); exact Is.base))); intro _; rotate_left; intro _; rotate_right) | (apply TL.skip; rfl; rfl; rfl) | (apply TL.skip_none; rfl; rfl) | (apply TL.val; rfl; rfl; (apply V.nilCheck; rfl)) | (apply TL.val; rfl; rfl; (apply V.sliceCap (s := s); rfl; rfl; rfl; rfl; rfl; rfl; exact hc; exact hcap)) | (apply TL.val; rfl; rfl; (apply V.sliceFrom (s := s); rfl; rfl; rfl; rfl; rfl; rfl; exact hc; exact hcap)) | (apply TL.x; rfl; rfl; (apply X.storeTo 0 [(s.drop n.toNat).v]; rfl; rfl; rfl; rfl; rfl; rfl; rfl; rfl; rfl; rfl); intro _ _) | (apply TL.val; rfl; rfl; (apply V.build; rfl; rfl; rfl; rfl; rfl; rfl)) | (apply TL.val; rfl; rfl; (apply V.iface; rfl; rfl; rfl)) | (apply TL.panic; rfl; rfl) | (apply TL.val; rfl; rfl; (first | exact vpure | exact vread)) | (apply TL.x; rfl; rfl; (first | exact xgrow | exact xput); intro _ _) | (apply TL.guard; rfl; rfl; rfl; (with_reducible (first | exact Is.ndec | exact Is.dec | exact Is.not | ((fail_if_success exact Is.litT); (fail_if_success exact Is.litF); exact Is.base))); intro _; rotate_left; intro _; rotate_right)))
    all_goals (try (exfalso; omega))
    refine N.ret1 rfl (by (exact rvx)) fun w hst => .inl ⟨(s.take n.toNat, s.drop n.toNat), ⟨hc.1, ?_, hg.take hn, hg.drop hn⟩, rfl, hst⟩
    unfold takeR
    rw [if_pos (by omega)]
    rfl
  · repeat (any_goals (first | refine T.seq ?_ | refine T.region ?_ | refine TL.nil ?_ | refine N.next ?_ | refine N.inBlock ?_ | refine N.exit_same ?_ | refine N.exit_then ?_ | refine N.ret_then ?_ | refine N.ret_block ?_ | (apply N.exit_other; rfl) | refine T.ret ?_ | refine T.skip ?_ | refine T.exit ?_ | refine T.block ?_ | (apply T.cond_true; rfl) | (apply T.cond_false; rfl) | (apply T.test; rfl; (with_reducible (first | exact Is.ndec | exact Is.dec | exact Is.not | ((fail_if_success exact Is.litT); (fail_if_success exact Is.litF); exact Is.base))); intro _; rotate_left; intro _; rotate_right) | (apply TL.skip; rfl; rfl; rfl) | (apply TL.skip_none; rfl; rfl) | (apply TL.val; rfl; rfl; (apply V.nilCheck; rfl)) | (apply TL.val; rfl; rfl; (apply V.build; rfl; rfl; rfl; rfl; rfl; rfl)) | (apply TL.val; rfl; rfl; (apply V.iface; rfl; rfl; rfl)) | (apply TL.panic; rfl; rfl) | (refine N.panic_then ?_) | (refine N.panic_block ?_) | (apply TL.val; rfl; rfl; (first | exact vpure | exact vread)) | (apply TL.x; rfl; rfl; (first | exact xgrow | exact xput); intro _ _) | (apply TL.guard; rfl; rfl; rfl; (with_reducible (first | exact Is.ndec | exact Is.dec | exact Is.not | ((fail_if_success exact Is.litT); (fail_if_success exact Is.litF); exact Is.base))); intro _; rotate_left; intro _; rotate_right)))
    all_goals (try (exfalso; omega))
    all_goals
      refine N.panic_end fun w hst => .inr ⟨(), ?_, rfl, hst⟩
      by_cases h0 : n < 0
      · exact .inl h0
      · exact .inr (takeR_none.2 (by omega))
end
end Go.Proofs.YtogcofeencgipaaGreatDoor
