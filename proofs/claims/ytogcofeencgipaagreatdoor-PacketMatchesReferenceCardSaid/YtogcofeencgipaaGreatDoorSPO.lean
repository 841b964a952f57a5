/- Walks: the reader of messages: messages. -/
import Derived.Test.YtogcofeencgipaaGreatDoorSPN
namespace Go.Proofs.YtogcofeencgipaaGreatDoor
set_option linter.unusedVariables false
set_option linter.unusedSimpArgs false
open Go Go.RowKit
open Enc (enc)
set_option maxRecDepth 20000
def msgOf (xs : List Int) (qn : Bytes) (ys : List Int) (cut : Bytes) (sets : List SignedC) : MsgC := ⟨xs.getD 0 0, xs.getD 1 0, xs.getD 2 0, xs.getD 3 0, ⟨qn, ys.getD 0 0⟩, ⟨ys.getD 1 0, sets, cut⟩⟩
theorem four_rd (b : Bytes) : four.rd b = (numCod.rdN 4 b).map fun p => ((p.1.getD 0 0, p.1.getD 1 0, p.1.getD 2 0, p.1.getD 3 0), p.2) := by
  show ((numCod.rd b).bind fun q => ((numCod.rd q.2).bind fun r => ((numCod.rd r.2).bind fun t => (numCod.rd t.2).map fun v => ((t.1, v.1), v.2)).map fun v => ((r.1, v.1), v.2)).map fun v => ((q.1, v.1), v.2)) = ((numCod.rd b).bind fun q => ((numCod.rd q.2).bind fun r => ((numCod.rd r.2).bind fun t => ((numCod.rd t.2).bind fun u => some ([u.1], u.2)).map fun v => (t.1 :: v.1, v.2)).map fun v => (r.1 :: v.1, v.2)).map fun v => (q.1 :: v.1, v.2)).map _
  cases numCod.rd b with
  | none => rfl
  | some q =>
    simp only [Option.bind_some]
    cases numCod.rd q.2 with
    | none => rfl
    | some r =>
      simp only [Option.bind_some]
      cases numCod.rd r.2 with
      | none => rfl
      | some t =>
        simp only [Option.bind_some]
        cases numCod.rd t.2 <;> rfl
theorem two_rd (b : Bytes) : (numCod.seq numCod).rd b = (numCod.rdN 2 b).map fun p => ((p.1.getD 0 0, p.1.getD 1 0), p.2) := by
  show ((numCod.rd b).bind fun q => (numCod.rd q.2).map fun v => ((q.1, v.1), v.2)) = ((numCod.rd b).bind fun q => ((numCod.rd q.2).bind fun u => some ([u.1], u.2)).map fun v => (q.1 :: v.1, v.2)).map _
  cases numCod.rd b with
  | none => rfl
  | some q =>
    simp only [Option.bind_some]
    cases numCod.rd q.2 <;> rfl
theorem msg_rd (b : Bytes) : msgCod.rd b = (numCod.rdN 4 b).bind fun p => (textCod.rd p.2).bind fun q => (numCod.rdN 2 q.2).bind fun r => (textCod.rd r.2).bind fun t => (smallR t.2).bind fun u => (signedCod.rdN u.1 u.2).map fun v => (msgOf p.1 q.1 r.1 t.1 v.1, v.2) := by
  show ((four.rd b).bind fun p => ((textCod.rd p.2).bind fun q => (((numCod.seq numCod).rd q.2).bind fun r => ((textCod.rd r.2).bind fun t => (countR signedCod.rdN t.2).map fun v => ((t.1, v.1), v.2)).map fun v => ((r.1, v.1), v.2)).map fun v => ((q.1, v.1), v.2)).map fun v => ((p.1, v.1), v.2)).map _ = _
  rw [four_rd]
  cases numCod.rdN 4 b with
  | none => rfl
  | some p =>
    simp only [Option.bind_some, Option.map_some]
    cases textCod.rd p.2 with
    | none => rfl
    | some q =>
      simp only [Option.bind_some]
      rw [two_rd]
      cases numCod.rdN 2 q.2 with
      | none => rfl
      | some r =>
        simp only [Option.bind_some, Option.map_some]
        cases textCod.rd r.2 with
        | none => rfl
        | some t =>
          simp only [Option.bind_some]
          rw [countR_small]
          cases smallR t.2 with
          | none => rfl
          | some u =>
            simp only [Option.bind_some]
            cases signedCod.rdN u.1 u.2 <;> rfl
theorem list2 {xs : List Int} (h : xs.length = 2) : ∃ a b, xs = [a, b] := by
  match xs, h with
  | [a, b], _ => exact ⟨a, b, rfl⟩
section
variable {w0 w : World} {H0 H : Hp} {L : List Loc} {b : Nat}
set_option maxHeartbeats 2000000 in
theorem c_listSigned {s : Slc UInt8} {n : Nat} (hs : St w0 H0 H (pkL b s :: L) w) (hR : Rules H) (hg : s.Good H) (hn : n < 256) : CallsIn (FW none) 0 Tryz.prog 121 #[intV n, .func (.func 123) #[.pointer (some ⟨b, 0, none⟩)] #[]] w (fun e w' =>
    (∃ g : Hp × List Signed × Value × Slc UInt8, (H.le g.1 ∧ signedCod.rdN n s.els = some (g.2.1.map Signed.c, g.2.2.2.els) ∧ g.2.2.2.Good g.1 ∧ g.2.1.length = n ∧ ∀ x ∈ g.2.1, Enc.good g.1 x) ∧ e = .returned g.2.2.1 ∧ St w0 H0 g.1 (.row g.2.2.1 65 5 n (encs g.2.1) :: pkL b g.2.2.2 :: L) w') ∨
    (∃ s' : Slc UInt8, signedCod.rdN n s.els = none ∧ e = .panicked Pan ∧ St w0 H0 H (pkL b s' :: L) w')) := by
  have hle0 := hs.le
  refine T.enterIn (vs := [intV n, .func (.func 123) #[.pointer (some ⟨b, 0, none⟩)] #[]]) Tryz.func121 rfl rfl rfl hs ?_
  repeat (any_goals (first | refine T.seq ?_ | refine T.region ?_ | refine TL.nil ?_ | refine N.next ?_ | refine N.inBlock ?_ | refine N.exit_same ?_ | refine N.exit_then ?_ | refine N.ret_then ?_ | refine N.ret_block ?_ | (apply N.exit_other; rfl) | refine T.ret ?_ | refine T.skip ?_ | refine T.exit ?_ | refine T.block ?_ | (apply T.cond_true; rfl) | (apply T.cond_false; rfl) | (apply T.test; rfl; (with_reducible (first | exact Is.ndec | exact Is.dec | exact Is.not | ((fail_if_success exact Is.litT); (fail_if_success exact Is.litF); exact Is.base))); intro _; rotate_left; intro _; rotate_right) | (apply TL.skip; rfl; rfl; rfl) | (apply TL.skip_none; rfl; rfl) | (apply TL.val; rfl; rfl; (first | exact vpure | exact vread)) | (apply TL.x; rfl; rfl; (first | exact xgrow | exact xput); intro _ _) | (apply TL.guard; rfl; rfl; rfl; (with_reducible (first | exact Is.ndec | exact Is.dec | exact Is.not | ((fail_if_success exact Is.litT); (fail_if_success exact Is.litF); exact Is.base))); intro _; rotate_left; intro _; rotate_right)))
  refine T.nilRow 65 5 ?_
  refine T.loop (G := Hp × List Signed × Value × Slc UInt8) (fun g => [(1, .func (.func 123) #[.pointer (some ⟨b, 0, none⟩)] #[]), (5, g.2.2.1), (6, intV n), (7, intV g.2.1.length)]) (fun g => g.1) (fun g => .row g.2.2.1 65 5 g.2.1.length (encs g.2.1) :: pkL b g.2.2.2 :: L) (fun g => H.le g.1 ∧ g.2.1.length ≤ n ∧ signedCod.rdN g.2.1.length s.els = some (g.2.1.map Signed.c, g.2.2.2.els) ∧ g.2.2.2.Good g.1 ∧ ∀ x ∈ g.2.1, Enc.good g.1 x) (fun g => n - g.2.1.length) (H, [], .slice none 0 0, s) ⟨Hp.le.refl _, Nat.zero_le _, rfl, hg, by simp⟩ (by (repeat (first | exact True.intro | refine ⟨rfl, ?_⟩ | refine Sub.int rfl (by omega) ?_))) rfl (List.Sublist.refl _) ?_
  rintro ⟨Hk, xs, v, t⟩ ⟨hle, hk, hr, ht, hxs⟩
  simp only at hle hk hr ht hxs ⊢
  by_cases hlt : xs.length < n
  · have hRk := Rules.mono hle hR
    repeat (any_goals (first | refine T.seq ?_ | refine T.region ?_ | refine TL.nil ?_ | refine N.next ?_ | refine N.inBlock ?_ | refine N.exit_same ?_ | refine N.exit_then ?_ | refine N.ret_then ?_ | refine N.ret_block ?_ | (apply N.exit_other; rfl) | refine T.ret ?_ | refine T.skip ?_ | refine T.exit ?_ | refine T.block ?_ | (apply T.cond_true; rfl) | (apply T.cond_false; rfl) | (apply T.test; rfl; (with_reducible (first | exact Is.ndec | exact Is.dec | exact Is.not | ((fail_if_success exact Is.litT); (fail_if_success exact Is.litF); exact Is.base))); intro _; rotate_left; intro _; rotate_right) | (apply TL.skip; rfl; rfl; rfl) | (apply TL.skip_none; rfl; rfl) | (apply TL.callPB [.pointer (some ⟨b, 0, none⟩)] (d := 11) (f := 123); rfl; rfl; rfl; rfl; rfl; exact Tryz.call123; exact (fun _ hs => CallsIn.atP 1 hs rfl fun hs => c_signedR hs hRk ht); (intro p hp; (repeat (first | refine N.panic_then ?_ | refine N.panic_block ?_)); (exact N.panic_end fun w hst => .inr ⟨p, rdN_end hr hp hlt, rfl, (hst.sub (by (repeat (first | exact List.Sublist.refl _ | exact List.nil_sublist _ | apply List.Sublist.cons_cons | apply List.Sublist.cons)))).lessH hle0 hle⟩)); intro p hp; obtain ⟨H2, x, u⟩ := p; obtain ⟨hle2, hxr, hu, hx⟩ := hp; simp only at hle2 hxr hu hx ⊢) | (apply TL.x; rfl; rfl; (apply X.append1 1; rfl; rfl; rfl; rfl; rfl; rfl; rfl; rfl; rfl; exact List.Mem.head _; rfl; rfl; rfl; (refine Nat.le_trans (Nat.mul_le_mul_right _ (show _ ≤ 1000 by omega)) ?_; decide); omega); intro pa _) | (apply TL.val; rfl; rfl; (first | exact vpure | exact vread)) | (apply TL.x; rfl; rfl; (first | exact xgrow | exact xput); intro _ _) | (apply TL.guard; rfl; rfl; rfl; (with_reducible (first | exact Is.ndec | exact Is.dec | exact Is.not | ((fail_if_success exact Is.litT); (fail_if_success exact Is.litF); exact Is.base))); intro _; rotate_left; intro _; rotate_right)))
    all_goals (try (exfalso; omega))
    refine N.round (H2, xs ++ [x], .slice (some ⟨pa.1, 0, none⟩) (xs.length + 1) pa.2, u) ?_ ?_ ?_ ?_ ?_
    · refine ⟨hle.trans hle2, by simp; omega, ?_, hu, fun y hy => ?_⟩
      · simp only [List.length_append, List.length_cons, List.length_nil, List.map_append, List.map_cons, List.map_nil]
        exact rdN_snoc hr hxr
      · rcases List.mem_append.1 hy with h | h
        · exact Enc.mono hle2 (hxs y h)
        · rw [List.mem_singleton.1 h]; exact hx
    · show n - (xs ++ [x]).length < n - xs.length
      simp; omega
    · simp only [List.length_append, List.length_cons, List.length_nil]
      (repeat (first | exact True.intro | refine ⟨rfl, ?_⟩ | refine Sub.int rfl (by omega) ?_))
    · rfl
    · simp only [List.length_append, List.length_cons, List.length_nil, Nat.zero_add, encs_snoc]
      exact List.Sublist.cons _ (List.Sublist.refl _)
  · have hk8 : xs.length = n := by omega
    repeat (any_goals (first | refine T.seq ?_ | refine T.region ?_ | refine TL.nil ?_ | refine N.next ?_ | refine N.inBlock ?_ | refine N.exit_same ?_ | refine N.exit_then ?_ | refine N.ret_then ?_ | refine N.ret_block ?_ | (apply N.exit_other; rfl) | refine T.ret ?_ | refine T.skip ?_ | refine T.exit ?_ | refine T.block ?_ | (apply T.cond_true; rfl) | (apply T.cond_false; rfl) | (apply T.test; rfl; (with_reducible (first | exact Is.ndec | exact Is.dec | exact Is.not | ((fail_if_success exact Is.litT); (fail_if_success exact Is.litF); exact Is.base))); intro _; rotate_left; intro _; rotate_right) | (apply TL.skip; rfl; rfl; rfl) | (apply TL.skip_none; rfl; rfl) | (apply TL.val; rfl; rfl; (first | exact vpure | exact vread)) | (apply TL.x; rfl; rfl; (first | exact xgrow | exact xput); intro _ _) | (apply TL.guard; rfl; rfl; rfl; (with_reducible (first | exact Is.ndec | exact Is.dec | exact Is.not | ((fail_if_success exact Is.litT); (fail_if_success exact Is.litF); exact Is.base))); intro _; rotate_left; intro _; rotate_right)))
    all_goals (try (exfalso; omega))
    subst hk8
    exact N.ret1 rfl (by (exact rvx)) fun w hst => .inl ⟨(Hk, xs, v, t), ⟨hle, hr, ht, rfl, hxs⟩, rfl, hst⟩
theorem c_listSignedF {s : Slc UInt8} {n : Nat} (hs : St w0 H0 H (pkL b s :: L) w) (hR : Rules H) (hg : s.Good H) (hn : n < 256) : CallsIn (FW none) 0 Tryz.prog 121 #[intV n, .func (.func 123) #[.pointer (some ⟨b, 0, none⟩)] #[]] w (fun e w' =>
    (∃ g : Hp × Slc Signed × Slc UInt8, (H.le g.1 ∧ signedCod.rdN n s.els = some (g.2.1.els.map Signed.c, g.2.2.els) ∧ g.2.2.Good g.1 ∧ g.2.1.Good g.1) ∧ e = .returned g.2.1.v ∧ St w0 H0 g.1 (pkL b g.2.2 :: L) w') ∨
    (∃ s' : Slc UInt8, signedCod.rdN n s.els = none ∧ e = .panicked Pan ∧ St w0 H0 H (pkL b s' :: L) w')) := by
  refine (c_listSigned hs hR hg hn).mono fun e w' hc => ?_
  rcases hc with ⟨⟨Hk, xs, v, t⟩, ⟨h0, h1, h2, h3, h4⟩, rfl, hst⟩ | h
  · simp only at h0 h1 h2 h3 h4 hst
    obtain ⟨H2, sl, e1, e2, e3, e4, e5⟩ := hst.freezeRow (α := Signed) rfl h3 h4
    exact .inl ⟨(H2, sl, t), ⟨h0.trans e4, by rw [e2]; exact h1, h2.mono e4, e3⟩, by rw [e1], e5⟩
  · exact .inr h
set_option maxHeartbeats 4000000 in
theorem c_messageR {s : Slc UInt8} (hs : St w0 H0 H (pkL b s :: L) w) (hR : Rules H) (hg : s.Good H) : CallsIn (FW none) 0 Tryz.prog 59 #[.pointer (some ⟨b, 0, none⟩)] w (fun e w' =>
    (∃ g : Hp × Msg × Slc UInt8, (H.le g.1 ∧ msgCod.rd s.els = some (g.2.1.c, g.2.2.els) ∧ g.2.2.Good g.1 ∧ Enc.good g.1 g.2.1) ∧ e = .returned (.agg (enc g.2.1).toArray) ∧ St w0 H0 g.1 (pkL b g.2.2 :: L) w') ∨
    (∃ s' : Slc UInt8, msgCod.rd s.els = none ∧ e = .panicked Pan ∧ St w0 H0 H (pkL b s' :: L) w')) := by
  have hle0 := hs.le
  refine T.enterIn (vs := [.pointer (some ⟨b, 0, none⟩)]) Tryz.func59 rfl rfl rfl hs ?_
  repeat (any_goals (first | refine T.seq ?_ | refine T.region ?_ | refine TL.nil ?_ | refine N.next ?_ | refine N.inBlock ?_ | refine N.exit_same ?_ | refine N.exit_then ?_ | refine N.ret_then ?_ | refine N.ret_block ?_ | (apply N.exit_other; rfl) | refine T.ret ?_ | refine T.skip ?_ | refine T.exit ?_ | refine T.block ?_ | (apply T.cond_true; rfl) | (apply T.cond_false; rfl) | (apply T.test; rfl; (with_reducible (first | exact Is.ndec | exact Is.dec | exact Is.not | ((fail_if_success exact Is.litT); (fail_if_success exact Is.litF); exact Is.base))); intro _; rotate_left; intro _; rotate_right) | (apply TL.skip; rfl; rfl; rfl) | (apply TL.skip_none; rfl; rfl) | (apply TL.x; rfl; rfl; (apply X.alloc (d := 2); rfl; rfl; rfl); intro b2 _) | (apply TL.x; rfl; rfl; (apply X.alloc (d := 3); rfl; rfl; rfl); intro b3 _) | (apply TL.x; rfl; rfl; (apply X.buildOnes (d := 10); rfl; rfl; rfl; rfl; rfl; rfl; rfl; rfl; rfl); intro b10 _) | (apply TL.callPB [.func (.func 119) #[.pointer (some ⟨b, 0, none⟩)] #[], .slice (some ⟨b10, 0, none⟩) 4 4] (d := 11) (f := 118); rfl; rfl; rfl; rfl; rfl; exact Tryz.call118; exact (fun _ hs => c_fill (os := [0, 1, 2, 3]) hs hg (by decide) (by intro o ho; simp only [List.mem_cons, List.not_mem_nil, or_false] at ho; show o < 9; omega)); (intro p hp; (repeat (first | refine N.panic_then ?_ | refine N.panic_block ?_)); (exact N.panic_end fun w hst => .inr ⟨p.2, by rw [msg_rd, show numCod.rdN 4 s.els = none from hp]; rfl, rfl, hst.sub (by (repeat (first | exact List.Sublist.refl _ | exact List.nil_sublist _ | apply List.Sublist.cons_cons | apply List.Sublist.cons)))⟩)); intro p hp; apply TL.dropHead; obtain ⟨xs, t1⟩ := p; obtain ⟨hr1, hx4, ht1, hxs⟩ := hp; obtain ⟨x1, x2, x3, x4, rfl⟩ := list4 hx4; simp only at hr1 ht1 hxs ⊢; replace hr1 : numCod.rdN 4 s.els = some ([x1, x2, x3, x4], t1.els) := hr1) | (apply TL.callPB [.pointer (some ⟨b, 0, none⟩)] (d := 13) (f := 120); rfl; rfl; rfl; rfl; rfl; exact Tryz.call120; exact (fun _ hs => CallsIn.atP 2 hs rfl fun hs => c_rdText hs ht1); (intro p hp; (repeat (first | refine N.panic_then ?_ | refine N.panic_block ?_)); (exact N.panic_end fun w hst => .inr ⟨p, by rw [msg_rd, hr1]; simp only [Option.bind_some]; rw [hp]; rfl, rfl, hst.sub (by (repeat (first | exact List.Sublist.refl _ | exact List.nil_sublist _ | apply List.Sublist.cons_cons | apply List.Sublist.cons)))⟩)); intro p hp; obtain ⟨z, t2⟩ := p; obtain ⟨hr2, ht2, hzl⟩ := hp; simp only at hr2 ht2 hzl ⊢) | (apply TL.x; rfl; rfl; (apply X.storeTo 0 [intV x1, intV x2, intV x3, intV x4, strV z, intV 0, intV 0, .slice none 0 0, strV []]; rfl; rfl; rfl; rfl; rfl; rfl; rfl; rfl; rfl; rfl); intro _ _) | (apply TL.x; rfl; rfl; (apply X.buildOnes (d := 22); rfl; rfl; rfl; rfl; rfl; rfl; rfl; rfl; rfl); intro b22 _) | (apply TL.callPB [.func (.func 119) #[.pointer (some ⟨b, 0, none⟩)] #[], .slice (some ⟨b22, 0, none⟩) 2 2] (d := 23) (f := 118); rfl; rfl; rfl; rfl; rfl; exact Tryz.call118; exact (fun _ hs => c_fill (os := [5, 6]) hs ht2 (by decide) (by intro o ho; simp only [List.mem_cons, List.not_mem_nil, or_false] at ho; show o < 9; omega)); (intro p hp; (repeat (first | refine N.panic_then ?_ | refine N.panic_block ?_)); (exact N.panic_end fun w hst => .inr ⟨p.2, by rw [msg_rd, hr1]; simp only [Option.bind_some]; rw [hr2]; simp only [Option.bind_some]; rw [show numCod.rdN 2 t2.els = none from hp]; rfl, rfl, hst.sub (by (repeat (first | exact List.Sublist.refl _ | exact List.nil_sublist _ | apply List.Sublist.cons_cons | apply List.Sublist.cons)))⟩)); intro p hp; apply TL.dropHead; obtain ⟨ys, t3⟩ := p; obtain ⟨hr3, hy2, ht3, hys⟩ := hp; obtain ⟨y1, y2, rfl⟩ := list2 hy2; simp only at hr3 ht3 hys ⊢; replace hr3 : numCod.rdN 2 t2.els = some ([y1, y2], t3.els) := hr3) | (apply TL.callPB [.pointer (some ⟨b, 0, none⟩)] (d := 25) (f := 120); rfl; rfl; rfl; rfl; rfl; exact Tryz.call120; exact (fun _ hs => CallsIn.atP 2 hs rfl fun hs => c_rdText hs ht3); (intro p hp; (repeat (first | refine N.panic_then ?_ | refine N.panic_block ?_)); (exact N.panic_end fun w hst => .inr ⟨p, by rw [msg_rd, hr1]; simp only [Option.bind_some]; rw [hr2]; simp only [Option.bind_some]; rw [hr3]; simp only [Option.bind_some]; rw [hp]; rfl, rfl, hst.sub (by (repeat (first | exact List.Sublist.refl _ | exact List.nil_sublist _ | apply List.Sublist.cons_cons | apply List.Sublist.cons)))⟩)); intro p hp; obtain ⟨cu, t4⟩ := p; obtain ⟨hr4, ht4, hcl⟩ := hp; simp only at hr4 ht4 hcl ⊢) | (apply TL.x; rfl; rfl; (apply X.storeTo 0 [intV x1, intV x2, intV x3, intV x4, strV z, intV y1, intV y2, .slice none 0 0, strV cu]; rfl; rfl; rfl; rfl; rfl; rfl; rfl; rfl; rfl; rfl); intro _ _) | (apply TL.callPB [.pointer (some ⟨b, 0, none⟩)] (d := 29) (f := 122); rfl; rfl; rfl; rfl; rfl; exact Tryz.call122; exact (fun _ hs => CallsIn.atP 2 hs rfl fun hs => c_small hs ht4); (intro p hp; (repeat (first | refine N.panic_then ?_ | refine N.panic_block ?_)); (exact N.panic_end fun w hst => .inr ⟨p, by rw [msg_rd, hr1]; simp only [Option.bind_some]; rw [hr2]; simp only [Option.bind_some]; rw [hr3]; simp only [Option.bind_some]; rw [hr4]; simp only [Option.bind_some]; rw [hp]; rfl, rfl, hst.sub (by (repeat (first | exact List.Sublist.refl _ | exact List.nil_sublist _ | apply List.Sublist.cons_cons | apply List.Sublist.cons)))⟩)); intro p hp; obtain ⟨k, t5⟩ := p; obtain ⟨hr5, ht5, hk⟩ := hp; simp only at hr5 ht5 hk ⊢) | (apply TL.callPB [intV k, .func (.func 123) #[.pointer (some ⟨b, 0, none⟩)] #[]] (d := 32) (f := 121); rfl; rfl; rfl; rfl; rfl; exact Tryz.call121; exact (fun _ hs => c_listSignedF (hs.perm (perm_of (i := 2) rfl)) hR ht5 hk); (intro p hp; (repeat (first | refine N.panic_then ?_ | refine N.panic_block ?_)); (exact N.panic_end fun w hst => .inr ⟨p, by rw [msg_rd, hr1]; simp only [Option.bind_some]; rw [hr2]; simp only [Option.bind_some]; rw [hr3]; simp only [Option.bind_some]; rw [hr4]; simp only [Option.bind_some]; rw [hr5]; simp only [Option.bind_some]; rw [hp]; rfl, rfl, hst.sub (by (repeat (first | exact List.Sublist.refl _ | exact List.nil_sublist _ | apply List.Sublist.cons_cons | apply List.Sublist.cons)))⟩)); intro p hp; obtain ⟨H2, sl, t6⟩ := p; obtain ⟨hle2, hr6, ht6, hsl⟩ := hp; simp only at hle2 hr6 ht6 hsl ⊢) | (apply TL.x; rfl; rfl; (apply X.storeTo 1 (enc (⟨x1, x2, x3, x4, ⟨z, y1⟩, ⟨y2, sl, cu⟩⟩ : Msg)); rfl; rfl; rfl; rfl; rfl; rfl; rfl; rfl; rfl; rfl); intro _ _) | (apply TL.x; rfl; rfl; (apply X.storeTo 2 (enc (⟨x1, x2, x3, x4, ⟨z, y1⟩, ⟨y2, sl, cu⟩⟩ : Msg)); rfl; rfl; rfl; rfl; rfl; rfl; rfl; rfl; rfl; rfl); intro _ _) | (apply TL.val; rfl; rfl; (first | exact vpure | exact vread)) | (apply TL.x; rfl; rfl; (first | exact xgrow | exact xput); intro _ _) | (apply TL.guard; rfl; rfl; rfl; (with_reducible (first | exact Is.ndec | exact Is.dec | exact Is.not | ((fail_if_success exact Is.litT); (fail_if_success exact Is.litF); exact Is.base))); intro _; rotate_left; intro _; rotate_right)))
  all_goals (try (exfalso; omega))
  have hI : ∀ x ∈ [x1, x2, x3, x4], I64 x := hxs
  have hJ : ∀ x ∈ [y1, y2], I64 x := hys
  refine N.ret1 rfl (by (exact rvx)) fun w hst => .inl ⟨(H2, ⟨x1, x2, x3, x4, ⟨z, y1⟩, ⟨y2, sl, cu⟩⟩, t6), ⟨hle2, ?_, ht6, ⟨hI x1 (by simp), hI x2 (by simp), hI x3 (by simp), hI x4 (by simp), ⟨Nat.le_trans hzl (by decide), hJ y1 (by simp)⟩, ⟨hJ y2 (by simp), hsl, Nat.le_trans hcl (by decide)⟩⟩⟩, rfl, hst.sub (by (repeat (first | exact List.Sublist.refl _ | exact List.nil_sublist _ | apply List.Sublist.cons_cons | apply List.Sublist.cons)))⟩
  rw [msg_rd, hr1]; simp only [Option.bind_some]; rw [hr2]; simp only [Option.bind_some]; rw [hr3]; simp only [Option.bind_some]; rw [hr4]; simp only [Option.bind_some]; rw [hr5]; simp only [Option.bind_some]; rw [hr6]; rfl
end
end Go.Proofs.YtogcofeencgipaaGreatDoor
