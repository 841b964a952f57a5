/- Walks: the reader of messages: signatures. -/
import Derived.Test.YtogcofeencgipaaGreatDoorSPL
namespace Go.Proofs.YtogcofeencgipaaGreatDoor
set_option linter.unusedVariables false
set_option linter.unusedSimpArgs false
open Go Go.RowKit
open Enc (enc)
set_option maxRecDepth 20000
def sigOf (z : Bytes) (xs : List Int) (n : Nat) : Sig := ⟨z, xs.getD 0 0, xs.getD 1 0, xs.getD 2 0, xs.getD 3 0, n⟩
theorem sig_rd (b : Bytes) : sigCod.rd b = (textCod.rd b).bind fun p => (numCod.rdN 4 p.2).bind fun q => (wordCod.rd q.2).map fun r => (sigOf p.1 q.1 r.1, r.2) := by
  show (((textCod.rd b).bind fun p => ((numCod.rd p.2).bind fun q => ((numCod.rd q.2).bind fun r => ((numCod.rd r.2).bind fun t => ((numCod.rd t.2).bind fun u => ((wordCod.rd u.2).map fun v => ((v.1 : Int), v.2)).map fun v => ((u.1, v.1), v.2)).map fun v => ((t.1, v.1), v.2)).map fun v => ((r.1, v.1), v.2)).map fun v => ((q.1, v.1), v.2)).map fun v => ((p.1, v.1), v.2))).map _ = _
  cases textCod.rd b with
  | none => rfl
  | some p =>
    simp only [Option.bind_some]
    have e4 : ∀ l, numCod.rdN 4 l = (numCod.rd l).bind fun q => ((numCod.rd q.2).bind fun r => ((numCod.rd r.2).bind fun t => ((numCod.rd t.2).bind fun u => some ([u.1], u.2)).map fun v => (t.1 :: v.1, v.2)).map fun v => (r.1 :: v.1, v.2)).map fun v => (q.1 :: v.1, v.2) := fun l => rfl
    rw [e4]
    cases numCod.rd p.2 with
    | none => rfl
    | some q =>
      simp only [Option.bind_some]
      cases numCod.rd q.2 with
      | none => rfl
      | some r =>
        simp only [Option.bind_some]
        cases numCod.rd r.2 with
        | none => rfl
        | some t =>
          simp only [Option.bind_some]
          cases numCod.rd t.2 with
          | none => rfl
          | some u =>
            simp only [Option.bind_some, Option.map_some]
            cases wordCod.rd u.2 with
            | none => rfl
            | some v => rfl
theorem list4 {xs : List Int} (h : xs.length = 4) : ∃ a b c d, xs = [a, b, c, d] := by
  match xs, h with
  | [a, b, c, d], _ => exact ⟨a, b, c, d, rfl⟩
section
variable {w0 w : World} {H0 H : Hp} {L : List Loc} {b : Nat}
set_option maxHeartbeats 2000000 in
theorem c_sig {s : Slc UInt8} (hs : St w0 H0 H (pkL b s :: L) w) (hg : s.Good H) : CallsIn (FW none) 0 Tryz.prog 176 #[.pointer (some ⟨b, 0, none⟩)] w (RdP w0 H0 H b L sigCod.rd (fun g => Enc.good H g) s.els (fun g => .agg (enc g).toArray)) := by
  refine T.enterIn (vs := [.pointer (some ⟨b, 0, none⟩)]) Tryz.func176 rfl rfl rfl hs ?_
  repeat (any_goals (first | refine T.seq ?_ | refine T.region ?_ | refine TL.nil ?_ | refine N.next ?_ | refine N.inBlock ?_ | refine N.exit_same ?_ | refine N.exit_then ?_ | refine N.ret_then ?_ | refine N.ret_block ?_ | (apply N.exit_other; rfl) | refine T.ret ?_ | refine T.skip ?_ | refine T.exit ?_ | refine T.block ?_ | (apply T.cond_true; rfl) | (apply T.cond_false; rfl) | (apply T.test; rfl; (with_reducible (first | exact Is.ndec | exact Is.dec | exact Is.not | ((fail_if_success exact Is.litT); (fail_if_success exact Is.litF); exact Is.base))); intro _; rotate_left; intro _; rotate_right) | (apply TL.skip; rfl; rfl; rfl) | (apply TL.skip_none; rfl; rfl) | (apply TL.x; rfl; rfl; (apply X.alloc (d := 2); rfl; rfl; rfl); intro b2 _) | (apply TL.x; rfl; rfl; (apply X.alloc (d := 3); rfl; rfl; rfl); intro b3 _) | (apply TL.callPB [.pointer (some ⟨b, 0, none⟩)] (d := 5) (f := 120); rfl; rfl; rfl; rfl; rfl; exact Tryz.call120; exact (fun _ hs => CallsIn.atP 2 hs rfl fun hs => c_rdText hs hg); (intro p hp; (repeat (first | refine N.panic_then ?_ | refine N.panic_block ?_)); (exact N.panic_end fun w hst => .inr ⟨p, by rw [sig_rd, hp]; rfl, rfl, hst.sub (by (repeat (first | exact List.Sublist.refl _ | exact List.nil_sublist _ | apply List.Sublist.cons_cons | apply List.Sublist.cons)))⟩)); intro p hp; obtain ⟨z, t⟩ := p; obtain ⟨hz, ht, hzl⟩ := hp; simp only at hz ht hzl ⊢) | (apply TL.x; rfl; rfl; (apply X.storeTo 0 [strV z, intV 0, intV 0, intV 0, intV 0, .int .u64 0]; rfl; rfl; rfl; rfl; rfl; rfl; rfl; rfl; rfl; rfl); intro _ _) | (apply TL.x; rfl; rfl; (apply X.buildOnes (d := 13); rfl; rfl; rfl; rfl; rfl; rfl; rfl; rfl; rfl); intro b13 _) | (apply TL.callPB [.func (.func 119) #[.pointer (some ⟨b, 0, none⟩)] #[], .slice (some ⟨b13, 0, none⟩) 4 4] (d := 14) (f := 118); rfl; rfl; rfl; rfl; rfl; exact Tryz.call118; exact (fun _ hs => c_fill (os := [1, 2, 3, 4]) hs ht (by decide) (by intro o ho; simp only [List.mem_cons, List.not_mem_nil, or_false] at ho; show o < 6; omega)); (intro p hp; (repeat (first | refine N.panic_then ?_ | refine N.panic_block ?_)); (exact N.panic_end fun w hst => .inr ⟨p.2, by rw [sig_rd, hz]; simp only [Option.bind_some]; rw [show numCod.rdN 4 t.els = none from hp]; rfl, rfl, hst.sub (by (repeat (first | exact List.Sublist.refl _ | exact List.nil_sublist _ | apply List.Sublist.cons_cons | apply List.Sublist.cons)))⟩)); intro p hp; obtain ⟨xs, u⟩ := p; obtain ⟨hxr, hx4, hu, hxs⟩ := hp; obtain ⟨x1, x2, x3, x4, rfl⟩ := list4 hx4; simp only at hxr hu hxs ⊢) | (apply TL.callPB [.pointer (some ⟨b, 0, none⟩)] (d := 16) (f := 172); rfl; rfl; rfl; rfl; rfl; exact Tryz.call172; exact (fun _ hs => CallsIn.atP 3 hs rfl fun hs => c_rdWord hs hu); (intro p hp; (repeat (first | refine N.panic_then ?_ | refine N.panic_block ?_)); (exact N.panic_end fun w hst => .inr ⟨p, by rw [sig_rd, hz]; simp only [Option.bind_some]; rw [show numCod.rdN 4 t.els = _ from hxr]; simp only [Option.bind_some]; rw [hp]; rfl, rfl, hst.sub (by (repeat (first | exact List.Sublist.refl _ | exact List.nil_sublist _ | apply List.Sublist.cons_cons | apply List.Sublist.cons)))⟩)); intro p hp; obtain ⟨n, v⟩ := p; obtain ⟨hn, hv, hnl⟩ := hp; simp only at hn hv hnl ⊢) | (apply TL.x; rfl; rfl; (apply X.storeTo 1 (enc (sigOf z [x1, x2, x3, x4] n)); rfl; rfl; rfl; rfl; rfl; rfl; rfl; rfl; rfl; rfl); intro _ _) | (apply TL.x; rfl; rfl; (apply X.storeTo 2 (enc (sigOf z [x1, x2, x3, x4] n)); rfl; rfl; rfl; rfl; rfl; rfl; rfl; rfl; rfl; rfl); intro _ _) | (apply TL.val; rfl; rfl; (first | exact vpure | exact vread)) | (apply TL.x; rfl; rfl; (first | exact xgrow | exact xput); intro _ _) | (apply TL.guard; rfl; rfl; rfl; (with_reducible (first | exact Is.ndec | exact Is.dec | exact Is.not | ((fail_if_success exact Is.litT); (fail_if_success exact Is.litF); exact Is.base))); intro _; rotate_left; intro _; rotate_right)))
  all_goals (try (exfalso; omega))
  have hI : ∀ x ∈ [x1, x2, x3, x4], I64 x := hxs
  refine N.ret1 rfl (by (exact rvx)) fun w hst => .inl ⟨(sigOf z [x1, x2, x3, x4] n, v), ⟨?_, hv, ?_⟩, rfl, hst.sub (by (repeat (first | exact List.Sublist.refl _ | exact List.nil_sublist _ | apply List.Sublist.cons_cons | apply List.Sublist.cons)))⟩
  · rw [sig_rd, hz]
    simp only [Option.bind_some]
    rw [show numCod.rdN 4 t.els = _ from hxr]
    simp only [Option.bind_some]
    rw [hn]
    rfl
  · exact ⟨Nat.le_trans hzl (by decide), hI x1 (by simp), hI x2 (by simp), hI x3 (by simp), hI x4 (by simp), Int.natCast_nonneg _, by show (n : Int) < _; omega⟩
set_option maxHeartbeats 2000000 in
theorem c_listSig {s : Slc UInt8} {n : Nat} (hs : St w0 H0 H (pkL b s :: L) w) (hg : s.Good H) (hn : n < 256) : CallsIn (FW none) 0 Tryz.prog 175 #[intV n, .func (.func 176) #[.pointer (some ⟨b, 0, none⟩)] #[]] w (fun e w' =>
    (∃ g : List Sig × Value × Slc UInt8, (sigCod.rdN n s.els = some (g.1, g.2.2.els) ∧ g.2.2.Good H ∧ g.1.length = n ∧ ∀ x ∈ g.1, Enc.good H x) ∧ e = .returned g.2.1 ∧ St w0 H0 H (.row g.2.1 79 6 n (encs g.1) :: pkL b g.2.2 :: L) w') ∨
    (∃ s' : Slc UInt8, sigCod.rdN n s.els = none ∧ e = .panicked Pan ∧ St w0 H0 H (pkL b s' :: L) w')) := by
  refine T.enterIn (vs := [intV n, .func (.func 176) #[.pointer (some ⟨b, 0, none⟩)] #[]]) Tryz.func175 rfl rfl rfl hs ?_
  repeat (any_goals (first | refine T.seq ?_ | refine T.region ?_ | refine TL.nil ?_ | refine N.next ?_ | refine N.inBlock ?_ | refine N.exit_same ?_ | refine N.exit_then ?_ | refine N.ret_then ?_ | refine N.ret_block ?_ | (apply N.exit_other; rfl) | refine T.ret ?_ | refine T.skip ?_ | refine T.exit ?_ | refine T.block ?_ | (apply T.cond_true; rfl) | (apply T.cond_false; rfl) | (apply T.test; rfl; (with_reducible (first | exact Is.ndec | exact Is.dec | exact Is.not | ((fail_if_success exact Is.litT); (fail_if_success exact Is.litF); exact Is.base))); intro _; rotate_left; intro _; rotate_right) | (apply TL.skip; rfl; rfl; rfl) | (apply TL.skip_none; rfl; rfl) | (apply TL.val; rfl; rfl; (first | exact vpure | exact vread)) | (apply TL.x; rfl; rfl; (first | exact xgrow | exact xput); intro _ _) | (apply TL.guard; rfl; rfl; rfl; (with_reducible (first | exact Is.ndec | exact Is.dec | exact Is.not | ((fail_if_success exact Is.litT); (fail_if_success exact Is.litF); exact Is.base))); intro _; rotate_left; intro _; rotate_right)))
  refine T.nilRow 79 6 ?_
  refine T.loop (G := List Sig × Value × Slc UInt8) (fun g => [(1, .func (.func 176) #[.pointer (some ⟨b, 0, none⟩)] #[]), (5, g.2.1), (6, intV n), (7, intV g.1.length)]) (fun _ => H) (fun g => .row g.2.1 79 6 g.1.length (encs g.1) :: pkL b g.2.2 :: L) (fun g => g.1.length ≤ n ∧ sigCod.rdN g.1.length s.els = some (g.1, g.2.2.els) ∧ g.2.2.Good H ∧ ∀ x ∈ g.1, Enc.good H x) (fun g => n - g.1.length) ([], .slice none 0 0, s) ⟨Nat.zero_le _, rfl, hg, by simp⟩ (by (repeat (first | exact True.intro | refine ⟨rfl, ?_⟩ | refine Sub.int rfl (by omega) ?_))) rfl (List.Sublist.refl _) ?_
  rintro ⟨xs, v, t⟩ ⟨hk, hr, ht, hxs⟩
  simp only at hk hr ht hxs ⊢
  by_cases hlt : xs.length < n
  · repeat (any_goals (first | refine T.seq ?_ | refine T.region ?_ | refine TL.nil ?_ | refine N.next ?_ | refine N.inBlock ?_ | refine N.exit_same ?_ | refine N.exit_then ?_ | refine N.ret_then ?_ | refine N.ret_block ?_ | (apply N.exit_other; rfl) | refine T.ret ?_ | refine T.skip ?_ | refine T.exit ?_ | refine T.block ?_ | (apply T.cond_true; rfl) | (apply T.cond_false; rfl) | (apply T.test; rfl; (with_reducible (first | exact Is.ndec | exact Is.dec | exact Is.not | ((fail_if_success exact Is.litT); (fail_if_success exact Is.litF); exact Is.base))); intro _; rotate_left; intro _; rotate_right) | (apply TL.skip; rfl; rfl; rfl) | (apply TL.skip_none; rfl; rfl) | (apply TL.callPB [.pointer (some ⟨b, 0, none⟩)] (d := 11) (f := 176); rfl; rfl; rfl; rfl; rfl; exact Tryz.call176; exact (fun _ hs => CallsIn.atP 1 hs rfl fun hs => c_sig hs ht); (intro p hp; (repeat (first | refine N.panic_then ?_ | refine N.panic_block ?_)); (exact N.panic_end fun w hst => .inr ⟨p, rdN_end hr hp hlt, rfl, hst.sub (by (repeat (first | exact List.Sublist.refl _ | exact List.nil_sublist _ | apply List.Sublist.cons_cons | apply List.Sublist.cons)))⟩)); intro p hp; skip) | (apply TL.x; rfl; rfl; (apply X.append1 1; rfl; rfl; rfl; rfl; rfl; rfl; rfl; rfl; rfl; exact List.Mem.head _; rfl; rfl; rfl; (refine Nat.le_trans (Nat.mul_le_mul_right _ (show _ ≤ 1000 by omega)) ?_; decide); omega); intro pa _) | (apply TL.val; rfl; rfl; (first | exact vpure | exact vread)) | (apply TL.x; rfl; rfl; (first | exact xgrow | exact xput); intro _ _) | (apply TL.guard; rfl; rfl; rfl; (with_reducible (first | exact Is.ndec | exact Is.dec | exact Is.not | ((fail_if_success exact Is.litT); (fail_if_success exact Is.litF); exact Is.base))); intro _; rotate_left; intro _; rotate_right)))
    all_goals (try (exfalso; omega))
    refine N.round (xs ++ [p.1], .slice (some ⟨pa.1, 0, none⟩) (xs.length + 1) pa.2, p.2) ?_ ?_ ?_ ?_ ?_
    · refine ⟨by simp; omega, by simp only [List.length_append, List.length_cons, List.length_nil]; exact rdN_snoc hr hp.1, hp.2.1, fun x hx => ?_⟩
      rcases List.mem_append.1 hx with h | h
      · exact hxs x h
      · rw [List.mem_singleton.1 h]; exact hp.2.2
    · show n - (xs ++ [p.1]).length < n - xs.length
      simp; omega
    · simp only [List.length_append, List.length_cons, List.length_nil]
      (repeat (first | exact True.intro | refine ⟨rfl, ?_⟩ | refine Sub.int rfl (by omega) ?_))
    · rfl
    · simp only [List.length_append, List.length_cons, List.length_nil, Nat.zero_add, encs_snoc]
      exact List.Sublist.cons _ (List.Sublist.refl _)
  · have hk8 : xs.length = n := by omega
    repeat (any_goals (first | refine T.seq ?_ | refine T.region ?_ | refine TL.nil ?_ | refine N.next ?_ | refine N.inBlock ?_ | refine N.exit_same ?_ | refine N.exit_then ?_ | refine N.ret_then ?_ | refine N.ret_block ?_ | (apply N.exit_other; rfl) | refine T.ret ?_ | refine T.skip ?_ | refine T.exit ?_ | refine T.block ?_ | (apply T.cond_true; rfl) | (apply T.cond_false; rfl) | (apply T.test; rfl; (with_reducible (first | exact Is.ndec | exact Is.dec | exact Is.not | ((fail_if_success exact Is.litT); (fail_if_success exact Is.litF); exact Is.base))); intro _; rotate_left; intro _; rotate_right) | (apply TL.skip; rfl; rfl; rfl) | (apply TL.skip_none; rfl; rfl) | (apply TL.val; rfl; rfl; (first | exact vpure | exact vread)) | (apply TL.x; rfl; rfl; (first | exact xgrow | exact xput); intro _ _) | (apply TL.guard; rfl; rfl; rfl; (with_reducible (first | exact Is.ndec | exact Is.dec | exact Is.not | ((fail_if_success exact Is.litT); (fail_if_success exact Is.litF); exact Is.base))); intro _; rotate_left; intro _; rotate_right)))
    all_goals (try (exfalso; omega))
    subst hk8
    exact N.ret1 rfl (by (exact rvx)) fun w hst => .inl ⟨(xs, v, t), ⟨hr, ht, rfl, hxs⟩, rfl, hst⟩
end
end Go.Proofs.YtogcofeencgipaaGreatDoor
