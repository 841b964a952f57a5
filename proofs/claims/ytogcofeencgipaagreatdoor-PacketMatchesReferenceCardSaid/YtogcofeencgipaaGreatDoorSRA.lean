/- Walks: the signed set that the reference of packets reads. -/
import Derived.Test.YtogcofeencgipaaGreatDoorSPZ
set_option pp.deepTerms true
set_option pp.maxSteps 10000000
namespace Go.Proofs.YtogcofeencgipaaGreatDoor
set_option linter.unusedVariables false
set_option linter.unusedSimpArgs false
open Go Go.RowKit
open Enc (enc)
set_option maxRecDepth 20000
theorem none_of {α : Type} {rd : Bytes → Option (α × Bytes)} {st : Option Bytes} {x : α} (h : (none : Option Bytes).bind rd = st.map fun r => (x, r)) : st = none := by
  cases st with
  | none => rfl
  | some r => cases h
theorem sig_rel {b z : Bytes} {n1 n2 n3 n4 n5 : Nat} {st1 st2 st3 st4 st5 st6 : Option Bytes} (h1 : textCod.rd b = st1.map fun r => (z, r)) (h2 : st1.bind wordCod.rd = st2.map fun r => (n1, r)) (h3 : st2.bind wordCod.rd = st3.map fun r => (n2, r)) (h4 : st3.bind wordCod.rd = st4.map fun r => (n3, r)) (h5 : st4.bind wordCod.rd = st5.map fun r => (n4, r)) (h6 : st5.bind wordCod.rd = st6.map fun r => (n5, r)) : sigCod.rd b = st6.map fun r => ((⟨z, intOf n1, intOf n2, intOf n3, intOf n4, n5⟩ : Sig), r) := by
  rw [sig_rd, h1]
  cases st1 with
  | none =>
    obtain rfl := none_of h2
    obtain rfl := none_of h3
    obtain rfl := none_of h4
    obtain rfl := none_of h5
    obtain rfl := none_of h6
    rfl
  | some r1 =>
    simp only [Option.map_some, Option.bind_some]
    have k2 := word_num h2
    cases st2 with
    | none =>
      obtain rfl := none_of h3
      obtain rfl := none_of h4
      obtain rfl := none_of h5
      obtain rfl := none_of h6
      rw [rdN_end (c := numCod) (k := 0) (xs := []) (l := r1) rfl k2 (by decide)]; rfl
    | some r2 =>
      have m2 := rdN_snoc (c := numCod) (k := 0) (xs := []) (l := r1) rfl k2
      have k3 := word_num h3
      cases st3 with
      | none =>
        obtain rfl := none_of h4
        obtain rfl := none_of h5
        obtain rfl := none_of h6
        rw [rdN_end m2 k3 (by decide)]; rfl
      | some r3 =>
        have m3 := rdN_snoc m2 k3
        have k4 := word_num h4
        cases st4 with
        | none =>
          obtain rfl := none_of h5
          obtain rfl := none_of h6
          rw [rdN_end m3 k4 (by decide)]; rfl
        | some r4 =>
          have m4 := rdN_snoc m3 k4
          have k5 := word_num h5
          cases st5 with
          | none =>
            obtain rfl := none_of h6
            rw [rdN_end m4 k5 (by decide)]; rfl
          | some r5 =>
            have m5 := rdN_snoc m4 k5
            rw [show numCod.rdN 4 r1 = _ from m5]
            simp only [Option.bind_some]
            rw [show wordCod.rd r5 = _ from h6]
            cases st6 <;> rfl
theorem intOf_small {n : Nat} (h : n < 9223372036854775808) : intOf n = n := by unfold intOf; rw [if_pos h]
theorem block_rel {st st1 st2 : Option Bytes} {n : Nat} {l : Bytes} (h1 : st.bind wordCod.rd = st1.map fun r => (n, r)) (hn : n < 9223372036854775808) (h2 : st1.bind (takeR n) = st2.map fun r => (l, r)) : (∀ sc, readSet l = some sc → st.bind blockR = st2.map fun r => (sc, r)) ∧ (readSet l = none → st.bind blockR = none) := by
  have k1 := word_num h1
  cases st with
  | none =>
    obtain rfl := none_of h1
    obtain rfl := none_of h2
    exact ⟨fun _ _ => rfl, fun _ => rfl⟩
  | some b =>
    have k1 : numCod.rd b = st1.map fun r => (intOf n, r) := k1
    show (∀ sc, readSet l = some sc → blockR b = st2.map fun r => (sc, r)) ∧ (readSet l = none → blockR b = none)
    unfold blockR
    rw [k1]
    cases st1 with
    | none =>
      obtain rfl := none_of h2
      exact ⟨fun _ _ => rfl, fun _ => rfl⟩
    | some r =>
      simp only [Option.map_some, Option.bind_some]
      rw [intOf_small hn, if_neg (by omega), Int.toNat_natCast, show takeR n r = _ from h2]
      cases st2 with
      | none => exact ⟨fun _ _ => rfl, fun _ => rfl⟩
      | some t => exact ⟨fun sc hsc => by simp [hsc], fun hno => by simp [hno]⟩
theorem block_big {st st1 : Option Bytes} {n : Nat} (h1 : st.bind wordCod.rd = st1.map fun r => (n, r)) (hb : ∀ r, st1 = some r → r.length < n) : st.bind blockR = none := by
  have k1 := word_num h1
  cases st with
  | none => rfl
  | some b =>
    have k1 : numCod.rd b = st1.map fun r => (intOf n, r) := k1
    show blockR b = none
    unfold blockR
    rw [k1]
    cases st1 with
    | none => rfl
    | some r =>
      simp only [Option.map_some, Option.bind_some]
      have := hb r rfl
      by_cases hn : n < 9223372036854775808
      · rw [intOf_small hn, if_neg (by omega), Int.toNat_natCast, takeR_none.2 this]; rfl
      · by_cases h0 : intOf n < 0
        · rw [if_pos h0]
        · rw [if_neg h0, takeR_none.2 (by unfold intOf at h0 ⊢; rw [if_neg hn] at h0 ⊢; have hw : n < 18446744073709551616 := word_lt (show wordCod.rd b = some (n, r) from h1); omega)]; rfl
theorem signed_rel {st stb st3 st4 : Option Bytes} {sc : SetC} {c : Nat} {gs : List Sig} (hb : st.bind blockR = stb.map fun r => (sc, r)) (h3 : stb.bind smallR = st3.map fun r => (c, r)) (h4 : st3.bind (sigCod.rdN c) = st4.map fun r => (gs, r)) : st.bind signedCod.rd = st4.map fun r => ((⟨sc, gs⟩ : SignedC), r) := by
  cases st with
  | none =>
    obtain rfl := none_of hb
    obtain rfl := none_of h3
    obtain rfl := none_of h4
    rfl
  | some b =>
    show signedCod.rd b = _
    rw [signed_rd, show blockR b = _ from hb]
    cases stb with
    | none =>
      obtain rfl := none_of h3
      obtain rfl := none_of h4
      rfl
    | some r =>
      simp only [Option.map_some, Option.bind_some]
      rw [show smallR r = _ from h3]
      cases st3 with
      | none =>
        obtain rfl := none_of h4
        rfl
      | some t =>
        simp only [Option.map_some, Option.bind_some]
        rw [show sigCod.rdN c t = _ from h4]
        cases st4 <;> rfl
abbrev rB (b : Nat) (s : Slc UInt8) (a : Nat) (f : Bool) : Loc := .blk b 110 [s.v, intV a, .bool f]
def sgZ : Signed := ⟨rsetNil, Slc.nil _⟩
theorem sgZ_good (H : Hp) : Enc.good H sgZ := ⟨⟨Nat.zero_le _, by show I64 0; decide, by show I64 0; decide, Slc.nil_good⟩, Slc.nil_good⟩
section
variable {w0 w : World} {H0 H : Hp} {L : List Loc} {b : Nat}
set_option maxHeartbeats 8000000 in
theorem c_one26 {s : Slc UInt8} {a : Nat} {f : Bool} (hs : St w0 H0 H (rB b s a f :: L) w) (hg : s.Good H) (ha : a ≤ s.len) (hsl : s.len ≤ 4000) : CallsIn (FW none) 0 Tryz.prog 64 #[.pointer (some ⟨b, 0, none⟩)] w (fun e w' => ∃ g : Hp × Signed × Nat × Bool, (H.le g.1 ∧ g.2.2.1 ≤ s.len ∧ Enc.good g.1 g.2.1 ∧ (leftA s a f).bind signedCod.rd = (leftA s g.2.2.1 g.2.2.2).map fun r => (g.2.1.c, r)) ∧ e = .returned (.agg (enc g.2.1).toArray) ∧ St w0 H0 g.1 (rB b s g.2.2.1 g.2.2.2 :: L) w') := by
  have hle0 := hs.le
  have hlen := hg.len
  refine T.enterIn (vs := [.pointer (some ⟨b, 0, none⟩)]) Tryz.func64 rfl rfl rfl hs ?_
  repeat (any_goals (first | (apply T.seqU 10; rfl) | refine T.region ?_ | refine TL.nil ?_ | refine N.next ?_ | refine N.inBlock ?_ | refine N.exit_same ?_ | refine N.exit_then ?_ | refine N.ret_then ?_ | refine N.ret_block ?_ | (apply N.exit_other; rfl) | refine T.ret ?_ | refine T.skip ?_ | refine T.exit ?_ | refine T.block ?_ | (apply T.cond_true; rfl) | (apply T.cond_false; rfl) | (apply T.test; rfl; (with_reducible (first | exact Is.ndec | exact Is.dec | exact Is.not | ((fail_if_success exact Is.litT); (fail_if_success exact Is.litF); exact Is.base))); intro _; rotate_left; intro _; rotate_right) | (apply TL.skip; rfl; rfl; rfl) | (apply TL.skip_none; rfl; rfl) | (apply TL.x; rfl; rfl; (apply X.alloc (d := 2); rfl; rfl; rfl); intro b2 _) | (apply TL.x; rfl; rfl; (apply X.callS0 (d := 13) (f := 61) Tryz.call61; rfl; rfl; exact fun _ hs => CallsIn.at_ 1 hs rfl fun hs => c_value26 hs hg ha trivial); intro p hp; obtain ⟨n, a1, f1⟩ := p; obtain ⟨ha1, _, hn, hnl⟩ := hp; simp only at ha1 hn hnl ⊢; by_cases hbig : s.len < n) | (apply TL.val; rfl; rfl; (apply V.nilCheck; rfl)) | (apply TL.val; rfl; rfl; (apply V.convW (r := .u64) (j := (s.len : Int)); rfl; rfl; rfl; rfl; exact IntWalk.u64_in _ (by omega))) | (apply TL.val; rfl; rfl; (apply V.build; rfl; rfl; rfl; rfl; rfl; rfl)) | (apply TL.x; rfl; rfl; (apply X.storeTo 1 [s.v, intV a1, .bool true]; rfl; rfl; rfl; rfl; rfl; rfl; rfl; rfl; rfl; rfl); intro _ _) | (apply TL.x; rfl; rfl; (apply X.storeTo 0 (enc sgZ); rfl; rfl; rfl; rfl; rfl; rfl; rfl; rfl; rfl; rfl); intro _ _) | (apply TL.val; rfl; rfl; (first | exact vpure | exact vread)) | (apply TL.x; rfl; rfl; (first | exact xgrow | exact xput); intro _ _) | (apply TL.guard; rfl; rfl; rfl; (with_reducible (first | exact Is.ndec | exact Is.dec | exact Is.not | ((fail_if_success exact Is.litT); (fail_if_success exact Is.litF); exact Is.base))); intro _; rotate_left; intro _; rotate_right)))
  all_goals (try (exfalso; omega))
  · refine N.ret1 rfl (by (exact rvx)) fun w hst => ⟨(H, sgZ, a1, true), ⟨Hp.le.refl _, ha1, sgZ_good _, ?_⟩, rfl, hst.sub (List.sublist_cons_self _ _)⟩
    refine signed_rel (stb := none) (c := 0) (st3 := none) (gs := []) (sc := sgZ.c.set) ?_ rfl rfl
    refine block_big hn fun r hr => ?_
    unfold leftA at hr
    split at hr
    · cases hr
    · injection hr with hr
      rw [← hr, List.length_drop]; omega
  · have hns : n ≤ s.len := by omega
    refine T.nilRow 5 1 ?_
    refine T.cut (G := Bytes × Value × Nat × Bool) (fun g => [(0, .pointer (some ⟨b, 0, none⟩)), (2, .pointer (some ⟨b2, 0, none⟩)), (4, g.2.1)]) (fun _ => H) (fun g => .row g.2.1 5 1 g.1.length (encs g.1) :: .blk b2 65 (enc sgZ) :: rB b s g.2.2.1 g.2.2.2 :: L) (fun g => g.1.length ≤ n ∧ g.2.2.1 ≤ s.len ∧ (leftA s a1 f1).bind (takeR n) = (leftA s g.2.2.1 g.2.2.2).map fun r => (g.1, r)) ?_ ?_
    · repeat (any_goals (first | refine T.seq ?_ | refine T.region ?_ | refine TL.nil ?_ | refine N.next ?_ | refine N.inBlock ?_ | refine N.exit_same ?_ | refine N.exit_then ?_ | refine N.ret_then ?_ | refine N.ret_block ?_ | (apply N.exit_other; rfl) | refine T.ret ?_ | refine T.skip ?_ | refine T.exit ?_ | refine T.block ?_ | (apply T.cond_true; rfl) | (apply T.cond_false; rfl) | (apply T.test; rfl; (with_reducible (first | exact Is.ndec | exact Is.dec | exact Is.not | ((fail_if_success exact Is.litT); (fail_if_success exact Is.litF); exact Is.base))); intro _; rotate_left; intro _; rotate_right) | (apply TL.skip; rfl; rfl; rfl) | (apply TL.skip_none; rfl; rfl) | (apply TL.val; rfl; rfl; (first | exact vpure | exact vread)) | (apply TL.x; rfl; rfl; (first | exact xgrow | exact xput); intro _ _) | (apply TL.guard; rfl; rfl; rfl; (with_reducible (first | exact Is.ndec | exact Is.dec | exact Is.not | ((fail_if_success exact Is.litT); (fail_if_success exact Is.litF); exact Is.base))); intro _; rotate_left; intro _; rotate_right)))
      refine T.loop (G := Bytes × Value × Nat × Bool) (fun g => [(0, .pointer (some ⟨b, 0, none⟩)), (2, .pointer (some ⟨b2, 0, none⟩)), (3, .int .u64 (n : Nat)), (4, g.2.1), (5, intV g.1.length)]) (fun _ => H) (fun g => .row g.2.1 5 1 g.1.length (encs g.1) :: .blk b2 65 (enc sgZ) :: rB b s g.2.2.1 g.2.2.2 :: L) (fun g => g.1.length ≤ n ∧ g.2.2.1 ≤ s.len ∧ (leftA s a1 f1).bind (takeR g.1.length) = (leftA s g.2.2.1 g.2.2.2).map fun r => (g.1, r)) (fun g => n - g.1.length) ([], .slice none 0 0, a1, f1) ⟨Nat.zero_le _, ha1, by cases f1 <;> simp [leftA, takeR]⟩ (by (repeat (first | exact True.intro | refine ⟨rfl, ?_⟩ | refine Sub.int rfl (by omega) ?_))) rfl (by exact List.Sublist.refl _) ?_
      rintro ⟨l, v, a', f'⟩ ⟨hl, ha', hr⟩
      simp only at hl ha' hr ⊢
      by_cases hlt : l.length < n
      · cases f' with
        | true =>
          repeat (any_goals (first | refine T.seq ?_ | refine T.region ?_ | refine TL.nil ?_ | refine N.next ?_ | refine N.inBlock ?_ | refine N.exit_same ?_ | refine N.exit_then ?_ | refine N.ret_then ?_ | refine N.ret_block ?_ | (apply N.exit_other; rfl) | refine T.ret ?_ | refine T.skip ?_ | refine T.exit ?_ | refine T.block ?_ | (apply T.cond_true; rfl) | (apply T.cond_false; rfl) | (apply T.test; rfl; (with_reducible (first | exact Is.ndec | exact Is.dec | exact Is.not | ((fail_if_success exact Is.litT); (fail_if_success exact Is.litF); exact Is.base))); intro _; rotate_left; intro _; rotate_right) | (apply TL.skip; rfl; rfl; rfl) | (apply TL.skip_none; rfl; rfl) | (apply TL.val; rfl; rfl; (apply V.nilCheck; rfl)) | (apply TL.val; rfl; rfl; (apply V.convW (r := .i64) (j := (n : Int)); rfl; rfl; rfl; rfl; exact IntWalk.i64_in _ (by omega))) | (apply TL.val; rfl; rfl; (first | exact vpure | exact vread)) | (apply TL.x; rfl; rfl; (first | exact xgrow | exact xput); intro _ _) | (apply TL.guard; rfl; rfl; rfl; (with_reducible (first | exact Is.ndec | exact Is.dec | exact Is.not | ((fail_if_success exact Is.litT); (fail_if_success exact Is.litF); exact Is.base))); intro _; rotate_left; intro _; rotate_right)))
          all_goals (try (exfalso; omega))
          all_goals (try contradiction)
          all_goals (exact N.cut (l, v, a', true) ⟨hl, ha', takeA_mono hr hl l⟩ (by (repeat (first | exact True.intro | refine ⟨rfl, ?_⟩ | refine Sub.int rfl (by omega) ?_))) rfl (List.Sublist.refl _))
        | false =>
          repeat (any_goals (first | refine T.seq ?_ | refine T.region ?_ | refine TL.nil ?_ | refine N.next ?_ | refine N.inBlock ?_ | refine N.exit_same ?_ | refine N.exit_then ?_ | refine N.ret_then ?_ | refine N.ret_block ?_ | (apply N.exit_other; rfl) | refine T.ret ?_ | refine T.skip ?_ | refine T.exit ?_ | refine T.block ?_ | (apply T.cond_true; rfl) | (apply T.cond_false; rfl) | (apply T.test; rfl; (with_reducible (first | exact Is.ndec | exact Is.dec | exact Is.not | ((fail_if_success exact Is.litT); (fail_if_success exact Is.litF); exact Is.base))); intro _; rotate_left; intro _; rotate_right) | (apply TL.skip; rfl; rfl; rfl) | (apply TL.skip_none; rfl; rfl) | (apply TL.val; rfl; rfl; (apply V.nilCheck; rfl)) | (apply TL.val; rfl; rfl; (apply V.convW (r := .i64) (j := (n : Int)); rfl; rfl; rfl; rfl; exact IntWalk.i64_in _ (by omega))) | (apply TL.x; rfl; rfl; (apply X.callS0 (d := 41) (f := 63) Tryz.call63; rfl; rfl; exact fun _ hs => CallsIn.at_ 2 hs rfl fun hs => c_next26 hs hg ha' trivial); intro p hp; obtain ⟨c2, a2, f2⟩ := p; obtain ⟨ha2, hf2, hc2, _⟩ := hp; simp only at ha2 hf2 hc2 ⊢) | (apply TL.x; rfl; rfl; (apply X.buildSlice1 (d := 42); rfl; rfl; rfl; rfl; rfl; rfl; rfl; rfl); intro b24 _) | (apply TL.x; rfl; rfl; (apply X.appendBy 1; rfl; rfl; rfl; rfl; rfl; rfl; rfl; rfl; rfl; rfl; exact List.Mem.head _; omega); intro v5 _) | (apply TL.val; rfl; rfl; (first | exact vpure | exact vread)) | (apply TL.x; rfl; rfl; (first | exact xgrow | exact xput); intro _ _) | (apply TL.guard; rfl; rfl; rfl; (with_reducible (first | exact Is.ndec | exact Is.dec | exact Is.not | ((fail_if_success exact Is.litT); (fail_if_success exact Is.litF); exact Is.base))); intro _; rotate_left; intro _; rotate_right)))
          all_goals (try (exfalso; omega))
          all_goals (try contradiction)
          all_goals (refine N.round (l ++ [c2], v5, a2, f2) ⟨by simp; omega, ha2, by simp only [List.length_append, List.length_cons, List.length_nil]; exact take_step hr hc2⟩ (by show n - (l ++ [c2]).length < n - l.length; simp; omega) (by simp only [List.length_append, List.length_cons, List.length_nil]; (repeat (first | exact True.intro | refine ⟨rfl, ?_⟩ | refine Sub.int rfl (by omega) ?_))) rfl (List.Sublist.cons _ (List.Sublist.refl _)))
      · have hln : l.length = n := by omega
        repeat (any_goals (first | refine T.seq ?_ | refine T.region ?_ | refine TL.nil ?_ | refine N.next ?_ | refine N.inBlock ?_ | refine N.exit_same ?_ | refine N.exit_then ?_ | refine N.ret_then ?_ | refine N.ret_block ?_ | (apply N.exit_other; rfl) | refine T.ret ?_ | refine T.skip ?_ | refine T.exit ?_ | refine T.block ?_ | (apply T.cond_true; rfl) | (apply T.cond_false; rfl) | (apply T.test; rfl; (with_reducible (first | exact Is.ndec | exact Is.dec | exact Is.not | ((fail_if_success exact Is.litT); (fail_if_success exact Is.litF); exact Is.base))); intro _; rotate_left; intro _; rotate_right) | (apply TL.skip; rfl; rfl; rfl) | (apply TL.skip_none; rfl; rfl) | (apply TL.val; rfl; rfl; (apply V.nilCheck; rfl)) | (apply TL.val; rfl; rfl; (apply V.convW (r := .i64) (j := (n : Int)); rfl; rfl; rfl; rfl; exact IntWalk.i64_in _ (by omega))) | (apply TL.val; rfl; rfl; (first | exact vpure | exact vread)) | (apply TL.x; rfl; rfl; (first | exact xgrow | exact xput); intro _ _) | (apply TL.guard; rfl; rfl; rfl; (with_reducible (first | exact Is.ndec | exact Is.dec | exact Is.not | ((fail_if_success exact Is.litT); (fail_if_success exact Is.litF); exact Is.base))); intro _; rotate_left; intro _; rotate_right)))
        all_goals (try (exfalso; omega))
        all_goals (try contradiction)
        all_goals (exact N.cut (l, v, a', f') ⟨hl, ha', hln ▸ hr⟩ (by (repeat (first | exact True.intro | refine ⟨rfl, ?_⟩ | refine Sub.int rfl (by omega) ?_))) rfl (List.Sublist.refl _))
    · rintro ⟨l, v4, a2, f2⟩ ⟨hl, ha2, hr⟩
      simp only at hl ha2 hr ⊢
      have hbl := block_rel hn (by omega) hr
      apply T.frzRow 0 (els := l); rfl; rfl; rfl; (intro _ _; trivial)
      intro H1 sl e1 e2 e3 hle1
      subst e1
      repeat (any_goals (first | (apply T.seqU 13; rfl) | refine T.region ?_ | refine TL.nil ?_ | refine N.next ?_ | refine N.inBlock ?_ | refine N.exit_same ?_ | refine N.exit_then ?_ | refine N.ret_then ?_ | refine N.ret_block ?_ | (apply N.exit_other; rfl) | refine T.ret ?_ | refine T.skip ?_ | refine T.exit ?_ | refine T.block ?_ | (apply T.cond_true; rfl) | (apply T.cond_false; rfl) | (apply T.test; rfl; (with_reducible (first | exact Is.ndec | exact Is.dec | exact Is.not | ((fail_if_success exact Is.litT); (fail_if_success exact Is.litF); exact Is.base))); intro _; rotate_left; intro _; rotate_right) | (apply TL.skip; rfl; rfl; rfl) | (apply TL.skip_none; rfl; rfl) | (apply TL.x; rfl; rfl; (apply X.callFE (f := 125) [sl.v] Tryz.call125; rfl; rfl; rfl; exact (fun _ hs => c_Read02 sl _ _ hs.sat e3)); intro p hp; obtain ⟨H2, x, er⟩ := p; obtain ⟨⟨hx, hrs⟩, hle2⟩ := hp; simp only at hx hrs hle2 ⊢; rw [e2] at hrs) | (apply TL.x; rfl; rfl; (apply X.alloc (d := 6); rfl; rfl; rfl); intro b6 _) | (apply TL.x; rfl; rfl; (apply X.storeTo 0 (enc x); rfl; rfl; rfl; rfl; rfl; rfl; rfl; rfl; rfl; rfl); intro _ _) | (apply TL.val; rfl; rfl; (first | exact vpure | exact vread)) | (apply TL.x; rfl; rfl; (first | exact xgrow | exact xput); intro _ _) | (apply TL.guard; rfl; rfl; rfl; (with_reducible (first | exact Is.ndec | exact Is.dec | exact Is.not | ((fail_if_success exact Is.litT); (fail_if_success exact Is.litF); exact Is.base))); intro _; rotate_left; intro _; rotate_right)))
      refine T.cut (G := Bool) (fun _ => [(0, .pointer (some ⟨b, 0, none⟩)), (2, .pointer (some ⟨b2, 0, none⟩)), (6, .pointer (some ⟨b6, 0, none⟩))]) (fun _ => H2) (fun fb => .blk b6 62 (enc x) :: .blk b2 65 (enc sgZ) :: rB b s a2 fb :: L) (fun fb => (leftA s a f).bind blockR = (leftA s a2 fb).map fun r => (x.c, r)) ?_ ?_
      · rcases hrs with ⟨hrs, rfl⟩ | ⟨hrs, rfl, rfl⟩
        · repeat (any_goals (first | refine T.seq ?_ | refine T.region ?_ | refine TL.nil ?_ | refine N.next ?_ | refine N.inBlock ?_ | refine N.exit_same ?_ | refine N.exit_then ?_ | refine N.ret_then ?_ | refine N.ret_block ?_ | (apply N.exit_other; rfl) | refine T.ret ?_ | refine T.skip ?_ | refine T.exit ?_ | refine T.block ?_ | (apply T.cond_true; rfl) | (apply T.cond_false; rfl) | (apply T.test; rfl; (with_reducible (first | exact Is.ndec | exact Is.dec | exact Is.not | ((fail_if_success exact Is.litT); (fail_if_success exact Is.litF); exact Is.base))); intro _; rotate_left; intro _; rotate_right) | (apply TL.skip; rfl; rfl; rfl) | (apply TL.skip_none; rfl; rfl) | (apply TL.val; rfl; rfl; (apply V.nilCheck; rfl)) | (apply TL.val; rfl; rfl; (first | exact vpure | exact vread)) | (apply TL.x; rfl; rfl; (first | exact xgrow | exact xput); intro _ _) | (apply TL.guard; rfl; rfl; rfl; (with_reducible (first | exact Is.ndec | exact Is.dec | exact Is.not | ((fail_if_success exact Is.litT); (fail_if_success exact Is.litF); exact Is.base))); intro _; rotate_left; intro _; rotate_right)))
          all_goals (try (exfalso; omega))
          all_goals (try contradiction)
          all_goals (exact N.cut f2 (hbl.1 _ hrs) (by (repeat (first | exact True.intro | refine ⟨rfl, ?_⟩ | refine Sub.int rfl (by omega) ?_))) rfl (List.Sublist.refl _))
        · repeat (any_goals (first | refine T.seq ?_ | refine T.region ?_ | refine TL.nil ?_ | refine N.next ?_ | refine N.inBlock ?_ | refine N.exit_same ?_ | refine N.exit_then ?_ | refine N.ret_then ?_ | refine N.ret_block ?_ | (apply N.exit_other; rfl) | refine T.ret ?_ | refine T.skip ?_ | refine T.exit ?_ | refine T.block ?_ | (apply T.cond_true; rfl) | (apply T.cond_false; rfl) | (apply T.test; rfl; (with_reducible (first | exact Is.ndec | exact Is.dec | exact Is.not | ((fail_if_success exact Is.litT); (fail_if_success exact Is.litF); exact Is.base))); intro _; rotate_left; intro _; rotate_right) | (apply TL.skip; rfl; rfl; rfl) | (apply TL.skip_none; rfl; rfl) | (apply TL.val; rfl; rfl; (apply V.nilCheck; rfl)) | (apply TL.x; rfl; rfl; (apply X.storeTo 2 [s.v, intV a2, .bool true]; rfl; rfl; rfl; rfl; rfl; rfl; rfl; rfl; rfl; rfl); intro _ _) | (apply TL.val; rfl; rfl; (first | exact vpure | exact vread)) | (apply TL.x; rfl; rfl; (first | exact xgrow | exact xput); intro _ _) | (apply TL.guard; rfl; rfl; rfl; (with_reducible (first | exact Is.ndec | exact Is.dec | exact Is.not | ((fail_if_success exact Is.litT); (fail_if_success exact Is.litF); exact Is.base))); intro _; rotate_left; intro _; rotate_right)))
          all_goals (try (exfalso; omega))
          all_goals (try contradiction)
          all_goals (exact N.cut true (hbl.2 hrs) (by (repeat (first | exact True.intro | refine ⟨rfl, ?_⟩ | refine Sub.int rfl (by omega) ?_))) rfl (List.Sublist.refl _))
      · intro fb hblk
        have hg2 := (hg.mono hle1).mono hle2
        repeat (any_goals (first | refine T.seq ?_ | refine T.region ?_ | refine TL.nil ?_ | refine N.next ?_ | refine N.inBlock ?_ | refine N.exit_same ?_ | refine N.exit_then ?_ | refine N.ret_then ?_ | refine N.ret_block ?_ | (apply N.exit_other; rfl) | refine T.ret ?_ | refine T.skip ?_ | refine T.exit ?_ | refine T.block ?_ | (apply T.cond_true; rfl) | (apply T.cond_false; rfl) | (apply T.test; rfl; (with_reducible (first | exact Is.ndec | exact Is.dec | exact Is.not | ((fail_if_success exact Is.litT); (fail_if_success exact Is.litF); exact Is.base))); intro _; rotate_left; intro _; rotate_right) | (apply TL.skip; rfl; rfl; rfl) | (apply TL.skip_none; rfl; rfl) | (apply TL.val; rfl; rfl; (apply V.build; rfl; rfl; rfl; rfl; rfl; rfl)) | (apply TL.x; rfl; rfl; (apply X.alloc (d := 8); rfl; rfl; rfl); intro b8 _) | (apply TL.x; rfl; rfl; (apply X.storeTo 0 (enc (⟨x, Slc.nil _⟩ : Signed)); rfl; rfl; rfl; rfl; rfl; rfl; rfl; rfl; rfl; rfl); intro _ _) | (apply TL.x; rfl; rfl; (apply X.callS0 (d := 57) (f := 63) Tryz.call63; rfl; rfl; exact fun _ hs => CallsIn.at_ 3 hs rfl fun hs => c_next26 hs hg2 ha2 trivial); intro p hp; obtain ⟨c, a3, f3⟩ := p; obtain ⟨ha3, _, hc, _⟩ := hp; simp only at ha3 hc ⊢; have hcl := c.toNat_lt) | (apply TL.val; rfl; rfl; (apply V.convW (r := .i64) (j := (c.toNat : Int)); rfl; rfl; rfl; rfl; exact IntWalk.i64_in _ (by omega))) | (apply TL.val; rfl; rfl; (first | exact vpure | exact vread)) | (apply TL.x; rfl; rfl; (first | exact xgrow | exact xput); intro _ _) | (apply TL.guard; rfl; rfl; rfl; (with_reducible (first | exact Is.ndec | exact Is.dec | exact Is.not | ((fail_if_success exact Is.litT); (fail_if_success exact Is.litF); exact Is.base))); intro _; rotate_left; intro _; rotate_right)))
        refine T.nilRow 79 6 ?_
        refine T.loop (G := List Sig × Value × Nat × Bool) (fun g => [(0, .pointer (some ⟨b, 0, none⟩)), (2, .pointer (some ⟨b2, 0, none⟩)), (8, .pointer (some ⟨b8, 0, none⟩)), (9, intV c.toNat), (10, intV g.1.length)]) (fun _ => H2) (fun g => .row g.2.1 79 6 g.1.length (encs g.1) :: .blk b8 65 [strV x.name, intV x.typ, intV x.life, x.data.v, g.2.1] :: .blk b6 62 (enc x) :: .blk b2 65 (enc sgZ) :: rB b s g.2.2.1 g.2.2.2 :: L) (fun g => g.1.length ≤ c.toNat ∧ g.2.2.1 ≤ s.len ∧ (∀ y ∈ g.1, Enc.good H2 y) ∧ (leftA s a3 f3).bind (sigCod.rdN g.1.length) = (leftA s g.2.2.1 g.2.2.2).map fun r => (g.1, r)) (fun g => c.toNat - g.1.length) ([], .slice none 0 0, a3, f3) ⟨Nat.zero_le _, ha3, by simp, by cases leftA s a3 f3 <;> rfl⟩ (by (repeat (first | exact True.intro | refine ⟨rfl, ?_⟩ | refine Sub.int rfl (by omega) ?_))) rfl (by exact List.Sublist.refl _) ?_
        rintro ⟨gs, gv, a', f'⟩ ⟨hk, ha', hd, hinv⟩
        simp only at hk ha' hd hinv ⊢
        by_cases hlt : gs.length < c.toNat
        · cases f' with
          | true =>
            apply T.frzRow 0 (els := gs); rfl; rfl; rfl; exact hd
            intro H3 sg e6 e7 e8 hle3
            subst e6
            repeat (any_goals (first | refine T.seq ?_ | refine T.region ?_ | refine TL.nil ?_ | refine N.next ?_ | refine N.inBlock ?_ | refine N.exit_same ?_ | refine N.exit_then ?_ | refine N.ret_then ?_ | refine N.ret_block ?_ | (apply N.exit_other; rfl) | refine T.ret ?_ | refine T.skip ?_ | refine T.exit ?_ | refine T.block ?_ | (apply T.cond_true; rfl) | (apply T.cond_false; rfl) | (apply T.test; rfl; (with_reducible (first | exact Is.ndec | exact Is.dec | exact Is.not | ((fail_if_success exact Is.litT); (fail_if_success exact Is.litF); exact Is.base))); intro _; rotate_left; intro _; rotate_right) | (apply TL.skip; rfl; rfl; rfl) | (apply TL.skip_none; rfl; rfl) | (apply TL.val; rfl; rfl; (apply V.nilCheck; rfl)) | (apply TL.x; rfl; rfl; (apply X.storeTo 2 (enc (⟨x, sg⟩ : Signed)); rfl; rfl; rfl; rfl; rfl; rfl; rfl; rfl; rfl; rfl); intro _ _) | (apply TL.val; rfl; rfl; (first | exact vpure | exact vread)) | (apply TL.x; rfl; rfl; (first | exact xgrow | exact xput); intro _ _) | (apply TL.guard; rfl; rfl; rfl; (with_reducible (first | exact Is.ndec | exact Is.dec | exact Is.not | ((fail_if_success exact Is.litT); (fail_if_success exact Is.litF); exact Is.base))); intro _; rotate_left; intro _; rotate_right)))
            all_goals (try (exfalso; omega))
            all_goals (try contradiction)
            all_goals (refine N.ret1 rfl (by (exact rvx)) fun w hst => ⟨(H3, ⟨x, sg⟩, a', true), ⟨(hle1.trans hle2).trans hle3, ha', ⟨Enc.mono hle3 hx, e8⟩, ?_⟩, rfl, (hst.sub (List.Sublist.cons _ (List.Sublist.cons _ (List.Sublist.cons _ (List.Sublist.refl _)))))⟩)
            all_goals (
              have hrel := signed_rel (st4 := none) (gs := gs) hblk (byte_small hc) (rdN_stop (n := c.toNat) hinv (by omega))
              rw [show (⟨x, sg⟩ : Signed).c = ⟨x.c, gs⟩ by rw [← e7]; rfl]
              exact hrel)
          | false =>
            repeat (any_goals (first | refine T.seq ?_ | refine T.region ?_ | refine TL.nil ?_ | refine N.next ?_ | refine N.inBlock ?_ | refine N.exit_same ?_ | refine N.exit_then ?_ | refine N.ret_then ?_ | refine N.ret_block ?_ | (apply N.exit_other; rfl) | refine T.ret ?_ | refine T.skip ?_ | refine T.exit ?_ | refine T.block ?_ | (apply T.cond_true; rfl) | (apply T.cond_false; rfl) | (apply T.test; rfl; (with_reducible (first | exact Is.ndec | exact Is.dec | exact Is.not | ((fail_if_success exact Is.litT); (fail_if_success exact Is.litF); exact Is.base))); intro _; rotate_left; intro _; rotate_right) | (apply TL.skip; rfl; rfl; rfl) | (apply TL.skip_none; rfl; rfl) | (apply TL.val; rfl; rfl; (apply V.nilCheck; rfl)) | (apply TL.x; rfl; rfl; (apply X.callS0 (d := 72) (f := 62) Tryz.call62; rfl; rfl; exact fun _ hs => CallsIn.at_ 4 hs rfl fun hs => c_word26 hs hg2 ha' trivial); intro q1 hq1) | (apply TL.val; rfl; rfl; (apply V.build; rfl; rfl; rfl; rfl; rfl; rfl)) | (apply TL.x; rfl; rfl; (apply X.alloc (d := 11); rfl; rfl; rfl); intro b11 _) | (apply TL.x; rfl; rfl; (apply X.callS0 (d := 75) (f := 61) Tryz.call61; rfl; rfl; exact fun _ hs => CallsIn.at_ 5 hs rfl fun hs => c_value26 hs hg2 hq1.1 trivial); intro q2 hq2) | (apply TL.x; rfl; rfl; (apply X.callS0 (d := 79) (f := 61) Tryz.call61; rfl; rfl; exact fun _ hs => CallsIn.at_ 5 hs rfl fun hs => c_value26 hs hg2 hq2.1 trivial); intro q3 hq3) | (apply TL.x; rfl; rfl; (apply X.callS0 (d := 83) (f := 61) Tryz.call61; rfl; rfl; exact fun _ hs => CallsIn.at_ 5 hs rfl fun hs => c_value26 hs hg2 hq3.1 trivial); intro q4 hq4) | (apply TL.x; rfl; rfl; (apply X.callS0 (d := 87) (f := 61) Tryz.call61; rfl; rfl; exact fun _ hs => CallsIn.at_ 5 hs rfl fun hs => c_value26 hs hg2 hq4.1 trivial); intro q5 hq5) | (apply TL.x; rfl; rfl; (apply X.callS0 (d := 91) (f := 61) Tryz.call61; rfl; rfl; exact fun _ hs => CallsIn.at_ 5 hs rfl fun hs => c_value26 hs hg2 hq5.1 trivial); intro q6 hq6) | (apply TL.val; rfl; rfl; (apply V.convW (r := .i64) (j := intOf q2.1); rfl; rfl; rfl; rfl; exact wrap_intOf hq2.2.2.2)) | (apply TL.val; rfl; rfl; (apply V.convW (r := .i64) (j := intOf q3.1); rfl; rfl; rfl; rfl; exact wrap_intOf hq3.2.2.2)) | (apply TL.val; rfl; rfl; (apply V.convW (r := .i64) (j := intOf q4.1); rfl; rfl; rfl; rfl; exact wrap_intOf hq4.2.2.2)) | (apply TL.val; rfl; rfl; (apply V.convW (r := .i64) (j := intOf q5.1); rfl; rfl; rfl; rfl; exact wrap_intOf hq5.2.2.2)) | (apply TL.x; rfl; rfl; (apply X.storeTo 0 [strV q1.1, intV (intOf q2.1), intV (intOf q3.1), intV (intOf q4.1), intV (intOf q5.1), .int .u64 (q6.1 : Nat)]; rfl; rfl; rfl; rfl; rfl; rfl; rfl; rfl; rfl; rfl); intro _ _) | (apply TL.x; rfl; rfl; (apply X.storeTo 0 [strV q1.1, intV (intOf q2.1), intV (intOf q3.1), intV (intOf q4.1), intV (intOf q5.1), .int .u64 0]; rfl; rfl; rfl; rfl; rfl; rfl; rfl; rfl; rfl; rfl); intro _ _) | (apply TL.x; rfl; rfl; (apply X.storeTo 0 [strV q1.1, intV (intOf q2.1), intV (intOf q3.1), intV (intOf q4.1), intV 0, .int .u64 0]; rfl; rfl; rfl; rfl; rfl; rfl; rfl; rfl; rfl; rfl); intro _ _) | (apply TL.x; rfl; rfl; (apply X.storeTo 0 [strV q1.1, intV (intOf q2.1), intV (intOf q3.1), intV 0, intV 0, .int .u64 0]; rfl; rfl; rfl; rfl; rfl; rfl; rfl; rfl; rfl; rfl); intro _ _) | (apply TL.x; rfl; rfl; (apply X.storeTo 0 [strV q1.1, intV (intOf q2.1), intV 0, intV 0, intV 0, .int .u64 0]; rfl; rfl; rfl; rfl; rfl; rfl; rfl; rfl; rfl; rfl); intro _ _) | (apply TL.x; rfl; rfl; (apply X.storeTo 0 [strV q1.1, intV 0, intV 0, intV 0, intV 0, .int .u64 0]; rfl; rfl; rfl; rfl; rfl; rfl; rfl; rfl; rfl; rfl); intro _ _) | (apply TL.x; rfl; rfl; (apply X.append1 2; rfl; rfl; rfl; rfl; rfl; rfl; rfl; rfl; rfl; exact List.Mem.head _; rfl; rfl; rfl; (refine Nat.le_trans (Nat.mul_le_mul_right _ (show _ ≤ 1000 by omega)) ?_; decide); omega); intro pa _) | (apply TL.x; rfl; rfl; (apply X.storeTo 3 [strV x.name, intV x.typ, intV x.life, x.data.v, .slice (some ⟨pa.1, 0, none⟩) (gs.length + 1) pa.2]; rfl; rfl; rfl; rfl; rfl; rfl; rfl; rfl; rfl; rfl); intro _ _) | (apply TL.val; rfl; rfl; (first | exact vpure | exact vread)) | (apply TL.x; rfl; rfl; (first | exact xgrow | exact xput); intro _ _) | (apply TL.guard; rfl; rfl; rfl; (with_reducible (first | exact Is.ndec | exact Is.dec | exact Is.not | ((fail_if_success exact Is.litT); (fail_if_success exact Is.litF); exact Is.base))); intro _; rotate_left; intro _; rotate_right)))
            all_goals (try (exfalso; omega))
            all_goals (try contradiction)
            all_goals
              have b4 := sig_rel (b := s.els.drop a') hq1.2.2.1 hq2.2.2.1 hq3.2.2.1 hq4.2.2.1 hq5.2.2.1 hq6.2.2.1
              have b5 := rdN_step (st := leftA s a3 f3) (k := gs.length) (l := gs) (r := s.els.drop a') hinv b4
              have hgood : Enc.good H2 (⟨q1.1, intOf q2.1, intOf q3.1, intOf q4.1, intOf q5.1, (q6.1 : Nat)⟩ : Sig) := ⟨Nat.le_trans hq1.2.2.2 (by decide), intOf_i64 hq2.2.2.2, intOf_i64 hq3.2.2.2, intOf_i64 hq4.2.2.2, intOf_i64 hq5.2.2.2, Int.natCast_nonneg _, by have := hq6.2.2.2; show (q6.1 : Int) < _; omega⟩
              refine N.round (gs ++ [⟨q1.1, intOf q2.1, intOf q3.1, intOf q4.1, intOf q5.1, (q6.1 : Nat)⟩], .slice (some ⟨pa.1, 0, none⟩) (gs.length + 1) pa.2, q6.2.1, q6.2.2) ⟨by simp; omega, hq6.1, ?_, by simp only [List.length_append, List.length_cons, List.length_nil]; exact b5⟩ (by show c.toNat - (gs ++ [_]).length < c.toNat - gs.length; simp; omega) (by simp only [List.length_append, List.length_cons, List.length_nil]; (repeat (first | exact True.intro | refine ⟨rfl, ?_⟩ | refine Sub.int rfl (by omega) ?_))) rfl ?_
            · intro y hy
              rcases List.mem_append.1 hy with h | h
              · exact hd y h
              · rw [List.mem_singleton.1 h]; exact hgood
            · simp only [List.length_append, List.length_cons, List.length_nil, Nat.zero_add, encs_snoc]
              exact List.Sublist.cons _ (List.Sublist.cons _ (List.Sublist.refl _))
        · have hgc : gs.length = c.toNat := by omega
          apply T.frzRow 0 (els := gs); rfl; rfl; rfl; exact hd
          intro H3 sg e6 e7 e8 hle3
          subst e6
          repeat (any_goals (first | refine T.seq ?_ | refine T.region ?_ | refine TL.nil ?_ | refine N.next ?_ | refine N.inBlock ?_ | refine N.exit_same ?_ | refine N.exit_then ?_ | refine N.ret_then ?_ | refine N.ret_block ?_ | (apply N.exit_other; rfl) | refine T.ret ?_ | refine T.skip ?_ | refine T.exit ?_ | refine T.block ?_ | (apply T.cond_true; rfl) | (apply T.cond_false; rfl) | (apply T.test; rfl; (with_reducible (first | exact Is.ndec | exact Is.dec | exact Is.not | ((fail_if_success exact Is.litT); (fail_if_success exact Is.litF); exact Is.base))); intro _; rotate_left; intro _; rotate_right) | (apply TL.skip; rfl; rfl; rfl) | (apply TL.skip_none; rfl; rfl) | (apply TL.val; rfl; rfl; (apply V.nilCheck; rfl)) | (apply TL.x; rfl; rfl; (apply X.storeTo 2 (enc (⟨x, sg⟩ : Signed)); rfl; rfl; rfl; rfl; rfl; rfl; rfl; rfl; rfl; rfl); intro _ _) | (apply TL.val; rfl; rfl; (first | exact vpure | exact vread)) | (apply TL.x; rfl; rfl; (first | exact xgrow | exact xput); intro _ _) | (apply TL.guard; rfl; rfl; rfl; (with_reducible (first | exact Is.ndec | exact Is.dec | exact Is.not | ((fail_if_success exact Is.litT); (fail_if_success exact Is.litF); exact Is.base))); intro _; rotate_left; intro _; rotate_right)))
          all_goals (try (exfalso; omega))
          all_goals (try contradiction)
          all_goals (refine N.ret1 rfl (by (exact rvx)) fun w hst => ⟨(H3, ⟨x, sg⟩, a', f'), ⟨(hle1.trans hle2).trans hle3, ha', ⟨Enc.mono hle3 hx, e8⟩, ?_⟩, rfl, (hst.sub (List.Sublist.cons _ (List.Sublist.cons _ (List.Sublist.cons _ (List.Sublist.refl _)))))⟩)
          all_goals (
            have hrel := signed_rel hblk (byte_small hc) (hgc ▸ hinv)
            rw [show (⟨x, sg⟩ : Signed).c = ⟨x.c, gs⟩ by rw [← e7]; rfl]
            exact hrel)
end
end Go.Proofs.YtogcofeencgipaaGreatDoor
