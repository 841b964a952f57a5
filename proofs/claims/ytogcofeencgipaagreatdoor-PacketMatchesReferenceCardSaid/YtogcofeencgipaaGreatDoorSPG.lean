/- Walks: the reader of sets. -/
import Derived.Test.YtogcofeencgipaaGreatDoorSEngR
import Derived.Test.YtogcofeencgipaaGreatDoorSSpecP
import Derived.Test.YtogcofeencgipaaGreatDoorSWG
namespace Go.Proofs.YtogcofeencgipaaGreatDoor
set_option linter.unusedVariables false
set_option linter.unusedSimpArgs false
open Go Go.RowKit
set_option maxRecDepth 20000
/-- What a reader has left; none: it failed. -/
def left (s : Slc UInt8) (f : Bool) : Option Bytes := if f then none else some s.els
/-- A value that is read; at a failure the value d. -/
def readsTo {α : Type} (rd : Bytes → Option (α × Bytes)) (d : α) (st : Option Bytes) (x : α) (st' : Option Bytes) : Prop := (st.bind rd).elim (x = d ∧ st' = none) (fun p => x = p.1 ∧ st' = some p.2)
def smallR (b : Bytes) : Option (Nat × Bytes) :=
  match b with
  | [] => none
  | c :: r => some (c.toNat, r)
theorem lor_byte (n : Nat) (c : UInt8) : Nat.lor (n * 256) c.toNat = n * 256 + c.toNat := by
  have h := Nat.two_pow_add_eq_or_of_lt (i := 8) (b := c.toNat) c.toNat_lt n
  show n * 256 ||| c.toNat = _
  rw [Nat.mul_comm n 256]
  exact h.symm
theorem wordOf_take {l : Bytes} {k : Nat} {c : UInt8} (h : l[k]? = some c) : wordOf (l.take (k + 1)) = wordOf (l.take k) * 256 + c.toNat := by
  unfold wordOf
  rw [List.take_add_one, h]
  simp
theorem wordOf_lt : ∀ (k : Nat) (l : Bytes), l.length ≤ k → wordOf l < 256 ^ k := by
  intro k
  induction k with
  | zero =>
    intro l h
    have : l = [] := List.eq_nil_of_length_eq_zero (by omega)
    subst this
    decide
  | succ k ih =>
    intro l h
    rcases List.eq_nil_or_concat l with rfl | ⟨m, c, rfl⟩
    · exact Nat.pow_pos (by decide)
    · have h1 := ih m (by simp at h; omega)
      have h2 : wordOf (m ++ [c]) = wordOf m * 256 + c.toNat := by unfold wordOf; simp
      have := c.toNat_lt
      rw [List.concat_eq_append, h2, Nat.pow_succ]
      omega
theorem wrap_intOf {n : Nat} (h : n < 256 ^ 8) : IntKind.i64.wrap (n : Int) = intOf n := by
  have h2 : n < 18446744073709551616 := h
  have e : (n : Int) % 2 ^ 64 = n := by omega
  unfold intOf
  simp only [IntKind.wrap, IntKind.bits, IntKind.signed, e]
  by_cases h3 : n < 9223372036854775808
  · rw [if_pos h3, if_neg (by simp; omega)]
  · rw [if_neg h3, if_pos (by simp; omega)]
    rfl
section
variable {w0 w : World} {H0 H : Hp} {L : List Loc} {b : Nat}
abbrev rrL (b : Nat) (s : Slc UInt8) (f : Bool) : Loc := .blk b 233 [s.v, .bool f]
theorem c_rtakeT {s : Slc UInt8} {n : Nat} (hs : St w0 H0 H (rrL b s false :: L) w) (hg : s.Good H) (hn : n ≤ s.len) : CallsIn (FW none) 0 Tryz.prog 231 #[.pointer (some ⟨b, 0, none⟩), intV n] w (fun e w' => ∃ _g : Unit, True ∧ e = .returned (s.to n).v ∧ St w0 H0 H (rrL b (s.drop n) false :: L) w') := by
  have hlim := hg.lim
  have hcap := hg.cap
  refine T.enterIn (vs := [.pointer (some ⟨b, 0, none⟩), intV n]) Tryz.func231 rfl rfl rfl hs ?_
  repeat (any_goals (first | refine T.seq ?_ | refine T.region ?_ | refine TL.nil ?_ | refine N.next ?_ | refine N.inBlock ?_ | refine N.exit_same ?_ | refine N.exit_then ?_ | refine N.ret_then ?_ | refine N.ret_block ?_ | (apply N.exit_other; rfl) | refine T.ret ?_ | refine T.skip ?_ | refine T.exit ?_ | refine T.block ?_ | (apply T.cond_true; rfl) | (apply T.cond_false; rfl) | (apply T.test; rfl; (with_reducible (first | exact Is.ndec | exact Is.dec | exact Is.not | ((fail_if_success exact Is.litT); (fail_if_success exact Is.litF); exact Is.base))); intro _; rotate_left; intro _; rotate_right) | (apply TL.skip; rfl; rfl; rfl) | (apply TL.skip_none; rfl; rfl) | (apply TL.val; rfl; rfl; (apply V.nilCheck; rfl)) | (apply TL.val; rfl; rfl; (apply V.sliceTo (s := s); rfl; rfl; rfl; rfl; rfl; (constructor <;> omega); exact hcap)) | (apply TL.val; rfl; rfl; (apply V.sliceFrom (s := s); rfl; rfl; rfl; rfl; rfl; rfl; (constructor <;> omega); exact hcap)) | (apply TL.x; rfl; rfl; (apply X.storeTo 0 [(s.drop n).v, .bool false]; rfl; rfl; rfl; rfl; rfl; rfl; rfl; rfl; rfl; rfl); intro _ _) | (apply TL.val; rfl; rfl; (first | exact vpure | exact vread)) | (apply TL.x; rfl; rfl; (first | exact xgrow | exact xput); intro _ _) | (apply TL.guard; rfl; rfl; rfl; (with_reducible (first | exact Is.ndec | exact Is.dec | exact Is.not | ((fail_if_success exact Is.litT); (fail_if_success exact Is.litF); exact Is.base))); intro _; rotate_left; intro _; rotate_right)))
  all_goals (try (exfalso; omega))
  refine N.ret1 rfl (by (exact rvx)) fun w hst => ⟨(), trivial, rfl, hst⟩
theorem c_rtakeF {s : Slc UInt8} {n : Nat} {f : Bool} (hs : St w0 H0 H (rrL b s f :: L) w) (hg : s.Good H) (hn : f = true ∨ s.len < n) (hb : n ≤ 1000000) : CallsIn (FW none) 0 Tryz.prog 231 #[.pointer (some ⟨b, 0, none⟩), intV n] w (fun e w' => ∃ _g : Unit, True ∧ e = .returned (.slice none 0 0) ∧ St w0 H0 H (rrL b s true :: L) w') := by
  have hlim := hg.lim
  have hcap := hg.cap
  refine T.enterIn (vs := [.pointer (some ⟨b, 0, none⟩), intV n]) Tryz.func231 rfl rfl rfl hs ?_
  cases f with
  | true =>
    repeat (any_goals (first | refine T.seq ?_ | refine T.region ?_ | refine TL.nil ?_ | refine N.next ?_ | refine N.inBlock ?_ | refine N.exit_same ?_ | refine N.exit_then ?_ | refine N.ret_then ?_ | refine N.ret_block ?_ | (apply N.exit_other; rfl) | refine T.ret ?_ | refine T.skip ?_ | refine T.exit ?_ | refine T.block ?_ | (apply T.cond_true; rfl) | (apply T.cond_false; rfl) | (apply T.test; rfl; (with_reducible (first | exact Is.ndec | exact Is.dec | exact Is.not | ((fail_if_success exact Is.litT); (fail_if_success exact Is.litF); exact Is.base))); intro _; rotate_left; intro _; rotate_right) | (apply TL.skip; rfl; rfl; rfl) | (apply TL.skip_none; rfl; rfl) | (apply TL.val; rfl; rfl; (apply V.nilCheck; rfl)) | (apply TL.x; rfl; rfl; (apply X.storeTo 0 [s.v, .bool true]; rfl; rfl; rfl; rfl; rfl; rfl; rfl; rfl; rfl; rfl); intro _ _) | (apply TL.val; rfl; rfl; (first | exact vpure | exact vread)) | (apply TL.x; rfl; rfl; (first | exact xgrow | exact xput); intro _ _) | (apply TL.guard; rfl; rfl; rfl; (with_reducible (first | exact Is.ndec | exact Is.dec | exact Is.not | ((fail_if_success exact Is.litT); (fail_if_success exact Is.litF); exact Is.base))); intro _; rotate_left; intro _; rotate_right)))
    all_goals (try (exfalso; omega))
    refine N.ret1 rfl (by (exact rvx)) fun w hst => ⟨(), trivial, rfl, hst⟩
  | false =>
    have hn : s.len < n := by rcases hn with h | h; cases h; exact h
    repeat (any_goals (first | refine T.seq ?_ | refine T.region ?_ | refine TL.nil ?_ | refine N.next ?_ | refine N.inBlock ?_ | refine N.exit_same ?_ | refine N.exit_then ?_ | refine N.ret_then ?_ | refine N.ret_block ?_ | (apply N.exit_other; rfl) | refine T.ret ?_ | refine T.skip ?_ | refine T.exit ?_ | refine T.block ?_ | (apply T.cond_true; rfl) | (apply T.cond_false; rfl) | (apply T.test; rfl; (with_reducible (first | exact Is.ndec | exact Is.dec | exact Is.not | ((fail_if_success exact Is.litT); (fail_if_success exact Is.litF); exact Is.base))); intro _; rotate_left; intro _; rotate_right) | (apply TL.skip; rfl; rfl; rfl) | (apply TL.skip_none; rfl; rfl) | (apply TL.val; rfl; rfl; (apply V.nilCheck; rfl)) | (apply TL.x; rfl; rfl; (apply X.storeTo 0 [s.v, .bool true]; rfl; rfl; rfl; rfl; rfl; rfl; rfl; rfl; rfl; rfl); intro _ _) | (apply TL.val; rfl; rfl; (first | exact vpure | exact vread)) | (apply TL.x; rfl; rfl; (first | exact xgrow | exact xput); intro _ _) | (apply TL.guard; rfl; rfl; rfl; (with_reducible (first | exact Is.ndec | exact Is.dec | exact Is.not | ((fail_if_success exact Is.litT); (fail_if_success exact Is.litF); exact Is.base))); intro _; rotate_left; intro _; rotate_right)))
    all_goals (try (exfalso; omega))
    refine N.ret1 rfl (by (exact rvx)) fun w hst => ⟨(), trivial, rfl, hst⟩
theorem c_rcount {s : Slc UInt8} {f : Bool} (hs : St w0 H0 H (rrL b s f :: L) w) (hg : s.Good H) : CallsIn (FW none) 0 Tryz.prog 212 #[.pointer (some ⟨b, 0, none⟩)] w (fun e w' => ∃ g : Nat × Slc UInt8 × Bool, (g.2.1.Good H ∧ readsTo smallR 0 (left s f) g.1 (left g.2.1 g.2.2)) ∧ e = .returned (intV g.1) ∧ St w0 H0 H (rrL b g.2.1 g.2.2 :: L) w') := by
  have hlen := hg.len
  refine T.enterIn (vs := [.pointer (some ⟨b, 0, none⟩)]) Tryz.func212 rfl rfl rfl hs ?_
  by_cases hn : f = true ∨ s.len < 1
  · repeat (any_goals (first | refine T.seq ?_ | refine T.region ?_ | refine TL.nil ?_ | refine N.next ?_ | refine N.inBlock ?_ | refine N.exit_same ?_ | refine N.exit_then ?_ | refine N.ret_then ?_ | refine N.ret_block ?_ | (apply N.exit_other; rfl) | refine T.ret ?_ | refine T.skip ?_ | refine T.exit ?_ | refine T.block ?_ | (apply T.cond_true; rfl) | (apply T.cond_false; rfl) | (apply T.test; rfl; (with_reducible (first | exact Is.ndec | exact Is.dec | exact Is.not | ((fail_if_success exact Is.litT); (fail_if_success exact Is.litF); exact Is.base))); intro _; rotate_left; intro _; rotate_right) | (apply TL.skip; rfl; rfl; rfl) | (apply TL.skip_none; rfl; rfl) | (apply TL.x; rfl; rfl; (apply X.callS0 (f := 231) Tryz.call231; rfl; rfl; exact fun _ hs => c_rtakeF (n := 1) hs hg hn (by decide)); intro _ _) | (apply TL.val; rfl; rfl; (first | exact vpure | exact vread)) | (apply TL.x; rfl; rfl; (first | exact xgrow | exact xput); intro _ _) | (apply TL.guard; rfl; rfl; rfl; (with_reducible (first | exact Is.ndec | exact Is.dec | exact Is.not | ((fail_if_success exact Is.litT); (fail_if_success exact Is.litF); exact Is.base))); intro _; rotate_left; intro _; rotate_right)))
    all_goals (try (exfalso; omega))
    refine N.ret1 rfl (by (exact rvx)) fun w hst => ⟨(0, s, true), ⟨hg, ?_⟩, rfl, hst⟩
    rcases hn with rfl | hn
    · exact ⟨rfl, rfl⟩
    · have h0 : s.els = [] := List.eq_nil_of_length_eq_zero (by omega)
      cases f with
      | true => exact ⟨rfl, rfl⟩
      | false =>
        unfold readsTo left
        simp [h0, smallR]
  · have hf : f = false := by cases f <;> simp_all
    subst hf
    have hl : 1 ≤ s.len := by
      have h2 : ¬ s.len < 1 := fun h => hn (.inr h)
      omega
    have hg1 := hg.to (i := 1) hl
    have hc0 := hg.row (k := 0) hl
    have hk : 0 < s.els.length := by omega
    have hsm := (s.els[0]'hk).toNat_lt
    have e0 : (s.to 1).els[0]? = some (s.els[0]'hk) := by
      show (s.els.take 1)[0]? = _
      rw [List.getElem?_take]; simp [hk]
    repeat (any_goals (first | refine T.seq ?_ | refine T.region ?_ | refine TL.nil ?_ | refine N.next ?_ | refine N.inBlock ?_ | refine N.exit_same ?_ | refine N.exit_then ?_ | refine N.ret_then ?_ | refine N.ret_block ?_ | (apply N.exit_other; rfl) | refine T.ret ?_ | refine T.skip ?_ | refine T.exit ?_ | refine T.block ?_ | (apply T.cond_true; rfl) | (apply T.cond_false; rfl) | (apply T.test; rfl; (with_reducible (first | exact Is.ndec | exact Is.dec | exact Is.not | ((fail_if_success exact Is.litT); (fail_if_success exact Is.litF); exact Is.base))); intro _; rotate_left; intro _; rotate_right) | (apply TL.skip; rfl; rfl; rfl) | (apply TL.skip_none; rfl; rfl) | (apply TL.x; rfl; rfl; (apply X.callS0 (f := 231) Tryz.call231; rfl; rfl; exact fun _ hs => c_rtakeT (n := 1) hs hg hl); intro _ _) | (apply TL.val; rfl; rfl; (apply V.elem (j := 0); rfl; rfl; rfl; rfl; rfl; rfl; (show 0 < 1; omega); exact hg1.at_ (show 0 < 1 by omega))) | (apply TL.val; rfl; rfl; (apply V.load_H; rfl; rfl; rfl; exact hc0 0 _ rfl)) | (apply TL.val; rfl; rfl; (apply V.conv; rfl; rfl; rfl; rfl; exact IntWalk.i64_in _ (by omega))) | (apply TL.val; rfl; rfl; (first | exact vpure | exact vread)) | (apply TL.x; rfl; rfl; (first | exact xgrow | exact xput); intro _ _) | (apply TL.guard; rfl; rfl; rfl; (with_reducible (first | exact Is.ndec | exact Is.dec | exact Is.not | ((fail_if_success exact Is.litT); (fail_if_success exact Is.litF); exact Is.base))); intro _; rotate_left; intro _; rotate_right)))
    all_goals (try (exfalso; omega))
    refine N.ret1 rfl (by (exact rvx)) fun w hst => ⟨((s.els[0]'hk).toNat, s.drop 1, false), ⟨hg.drop hl, ?_⟩, rfl, hst⟩
    unfold readsTo left
    have e1 : s.els = s.els[0]'hk :: s.els.drop 1 := by have h := List.drop_eq_getElem_cons hk; rwa [List.drop_zero] at h
    have e2 : smallR s.els = some ((s.els[0]'hk).toNat, s.els.drop 1) := by
      conv => lhs; rw [e1]
      rfl
    simp [e2, Slc.drop]
theorem left_some {s : Slc UInt8} {f : Bool} {r : Bytes} : left s f = some r ↔ f = false ∧ s.els = r := by
  unfold left
  cases f <;> simp
theorem c_rtext {s : Slc UInt8} {f : Bool} (hs : St w0 H0 H (rrL b s f :: L) w) (hg : s.Good H) : CallsIn (FW none) 0 Tryz.prog 210 #[.pointer (some ⟨b, 0, none⟩)] w (fun e w' => ∃ g : Bytes × Slc UInt8 × Bool, (g.2.1.Good H ∧ readsTo textCod.rd [] (left s f) g.1 (left g.2.1 g.2.2)) ∧ e = .returned (strV g.1) ∧ St w0 H0 H (rrL b g.2.1 g.2.2 :: L) w') := by
  refine T.enterIn (vs := [.pointer (some ⟨b, 0, none⟩)]) Tryz.func210 rfl rfl rfl hs ?_
  refine T.seq ?_
  refine T.region ?_
  apply TL.val; rfl; rfl; exact vpure
  refine TL.nil ?_
  refine N.next ?_
  refine T.seq ?_
  refine T.region ?_
  apply TL.val; rfl; rfl; exact vpure
  apply TL.val; rfl; rfl; exact vpure
  apply TL.x; rfl; rfl; (apply X.callS0 (f := 212) Tryz.call212; rfl; rfl; exact fun _ hs => c_rcount hs hg)
  rintro ⟨n, t, f2⟩ ⟨hg2, hr⟩
  simp only at hg2 hr ⊢
  have hlen := hg2.len
  have hn : n < 256 := by
    unfold readsTo at hr
    cases hb : (left s f).bind smallR with
    | none => rw [hb] at hr; have := hr.1; omega
    | some p =>
      rw [hb] at hr
      rw [hr.1]
      cases hl : left s f with
      | none => rw [hl] at hb; cases hb
      | some r =>
        rw [hl] at hb
        cases r with
        | nil => cases hb
        | cons c r => simp [smallR] at hb; rw [← hb]; exact c.toNat_lt
  have htx : textCod.rd = countR takeR := rfl
  by_cases hc : f2 = true ∨ t.len < n
  · repeat (any_goals (first | refine T.seq ?_ | refine T.region ?_ | refine TL.nil ?_ | refine N.next ?_ | refine N.inBlock ?_ | refine N.exit_same ?_ | refine N.exit_then ?_ | refine N.ret_then ?_ | refine N.ret_block ?_ | (apply N.exit_other; rfl) | refine T.ret ?_ | refine T.skip ?_ | refine T.exit ?_ | refine T.block ?_ | (apply T.cond_true; rfl) | (apply T.cond_false; rfl) | (apply T.test; rfl; (with_reducible (first | exact Is.ndec | exact Is.dec | exact Is.not | ((fail_if_success exact Is.litT); (fail_if_success exact Is.litF); exact Is.base))); intro _; rotate_left; intro _; rotate_right) | (apply TL.skip; rfl; rfl; rfl) | (apply TL.skip_none; rfl; rfl) | (apply TL.x; rfl; rfl; (apply X.callS0 (f := 231) Tryz.call231; rfl; rfl; exact fun _ hs => c_rtakeF (n := n) hs hg2 hc (by omega)); intro _ _) | (apply TL.val; rfl; rfl; (apply V.bytesStr (q := Slc.nil UInt8); rfl; rfl; rfl; rfl; rfl; rfl; rfl; exact Slc.nil_good)) | (apply TL.val; rfl; rfl; (first | exact vpure | exact vread)) | (apply TL.x; rfl; rfl; (first | exact xgrow | exact xput); intro _ _) | (apply TL.guard; rfl; rfl; rfl; (with_reducible (first | exact Is.ndec | exact Is.dec | exact Is.not | ((fail_if_success exact Is.litT); (fail_if_success exact Is.litF); exact Is.base))); intro _; rotate_left; intro _; rotate_right)))
    all_goals (try (exfalso; omega))
    refine N.ret1 rfl (by (exact rvx)) fun w hst => ⟨([], t, true), ⟨hg2, ?_⟩, rfl, hst⟩
    unfold readsTo
    have key : (left s f).bind textCod.rd = none := by
      rw [htx]
      cases hl : left s f with
      | none => rfl
      | some r =>
        rw [hl] at hr
        cases r with
        | nil => rfl
        | cons c r =>
          obtain ⟨h1, h2⟩ := hr
          simp only at h1 h2
          obtain ⟨h3, h4⟩ := left_some.1 h2
          show takeR c.toNat r = none
          rw [takeR_none, ← h4, ← h1]
          rcases hc with hc | hc
          · rw [hc] at h3; cases h3
          · omega
    rw [key]
    exact ⟨rfl, rfl⟩
  · have hf : f2 = false := by cases f2 <;> simp_all
    subst hf
    have hl : n ≤ t.len := by
      have h2 : ¬ t.len < n := fun h => hc (.inr h)
      omega
    repeat (any_goals (first | refine T.seq ?_ | refine T.region ?_ | refine TL.nil ?_ | refine N.next ?_ | refine N.inBlock ?_ | refine N.exit_same ?_ | refine N.exit_then ?_ | refine N.ret_then ?_ | refine N.ret_block ?_ | (apply N.exit_other; rfl) | refine T.ret ?_ | refine T.skip ?_ | refine T.exit ?_ | refine T.block ?_ | (apply T.cond_true; rfl) | (apply T.cond_false; rfl) | (apply T.test; rfl; (with_reducible (first | exact Is.ndec | exact Is.dec | exact Is.not | ((fail_if_success exact Is.litT); (fail_if_success exact Is.litF); exact Is.base))); intro _; rotate_left; intro _; rotate_right) | (apply TL.skip; rfl; rfl; rfl) | (apply TL.skip_none; rfl; rfl) | (apply TL.x; rfl; rfl; (apply X.callS0 (f := 231) Tryz.call231; rfl; rfl; exact fun _ hs => c_rtakeT (n := n) hs hg2 hl); intro _ _) | (apply TL.val; rfl; rfl; (apply V.bytesStr (q := t.to n); rfl; rfl; rfl; rfl; rfl; rfl; rfl; exact hg2.to hl)) | (apply TL.val; rfl; rfl; (first | exact vpure | exact vread)) | (apply TL.x; rfl; rfl; (first | exact xgrow | exact xput); intro _ _) | (apply TL.guard; rfl; rfl; rfl; (with_reducible (first | exact Is.ndec | exact Is.dec | exact Is.not | ((fail_if_success exact Is.litT); (fail_if_success exact Is.litF); exact Is.base))); intro _; rotate_left; intro _; rotate_right)))
    all_goals (try (exfalso; omega))
    refine N.ret1 rfl (by (exact rvx)) fun w hst => ⟨(t.els.take n, t.drop n, false), ⟨hg2.drop hl, ?_⟩, rfl, hst⟩
    unfold readsTo
    have key : (left s f).bind textCod.rd = some (t.els.take n, t.els.drop n) := by
      rw [htx]
      cases hl : left s f with
      | none => rw [hl] at hr; have := hr.2; cases this
      | some r =>
        rw [hl] at hr
        cases r with
        | nil => have := hr.2; cases this
        | cons c r =>
          obtain ⟨h1, h2⟩ := hr
          simp only at h1 h2
          obtain ⟨h3, h4⟩ := left_some.1 h2
          show takeR c.toNat r = _
          rw [← h4, ← h1]
          unfold takeR
          rw [if_pos (by omega)]
    rw [key]
    exact ⟨rfl, rfl⟩
set_option maxHeartbeats 1000000 in
theorem c_rnumber {s : Slc UInt8} {f : Bool} (hs : St w0 H0 H (rrL b s f :: L) w) (hg : s.Good H) : CallsIn (FW none) 0 Tryz.prog 211 #[.pointer (some ⟨b, 0, none⟩)] w (fun e w' => ∃ g : Int × Slc UInt8 × Bool, (g.2.1.Good H ∧ readsTo numCod.rd 0 (left s f) g.1 (left g.2.1 g.2.2)) ∧ e = .returned (intV g.1) ∧ St w0 H0 H (rrL b g.2.1 g.2.2 :: L) w') := by
  have hlen := hg.len
  refine T.enterIn (vs := [.pointer (some ⟨b, 0, none⟩)]) Tryz.func211 rfl rfl rfl hs ?_
  by_cases hc : f = true ∨ s.len < 8
  · repeat (any_goals (first | refine T.seq ?_ | refine T.region ?_ | refine TL.nil ?_ | refine N.next ?_ | refine N.inBlock ?_ | refine N.exit_same ?_ | refine N.exit_then ?_ | refine N.ret_then ?_ | refine N.ret_block ?_ | (apply N.exit_other; rfl) | refine T.ret ?_ | refine T.skip ?_ | refine T.exit ?_ | refine T.block ?_ | (apply T.cond_true; rfl) | (apply T.cond_false; rfl) | (apply T.test; rfl; (with_reducible (first | exact Is.ndec | exact Is.dec | exact Is.not | ((fail_if_success exact Is.litT); (fail_if_success exact Is.litF); exact Is.base))); intro _; rotate_left; intro _; rotate_right) | (apply TL.skip; rfl; rfl; rfl) | (apply TL.skip_none; rfl; rfl) | (apply TL.x; rfl; rfl; (apply X.callS0 (f := 231) Tryz.call231; rfl; rfl; exact fun _ hs => c_rtakeF (n := 8) hs hg hc (by decide)); intro _ _) | (apply TL.val; rfl; rfl; (first | exact vpure | exact vread)) | (apply TL.x; rfl; rfl; (first | exact xgrow | exact xput); intro _ _) | (apply TL.guard; rfl; rfl; rfl; (with_reducible (first | exact Is.ndec | exact Is.dec | exact Is.not | ((fail_if_success exact Is.litT); (fail_if_success exact Is.litF); exact Is.base))); intro _; rotate_left; intro _; rotate_right)))
    all_goals (try (exfalso; omega))
    refine T.loop (G := Unit) (fun _ => [(3, .int .u64 0), (7, .slice none 0 0), (8, intV 0), (9, intV 0)]) (fun _ => H) (fun _ => rrL b s true :: L) (fun _ => True) (fun _ => 0) () trivial (by (repeat (first | exact True.intro | refine ⟨rfl, ?_⟩ | refine Sub.int rfl (by omega) ?_))) rfl (List.Sublist.refl _) ?_
    rintro _ _
    repeat (any_goals (first | refine T.seq ?_ | refine T.region ?_ | refine TL.nil ?_ | refine N.next ?_ | refine N.inBlock ?_ | refine N.exit_same ?_ | refine N.exit_then ?_ | refine N.ret_then ?_ | refine N.ret_block ?_ | (apply N.exit_other; rfl) | refine T.ret ?_ | refine T.skip ?_ | refine T.exit ?_ | refine T.block ?_ | (apply T.cond_true; rfl) | (apply T.cond_false; rfl) | (apply T.test; rfl; (with_reducible (first | exact Is.ndec | exact Is.dec | exact Is.not | ((fail_if_success exact Is.litT); (fail_if_success exact Is.litF); exact Is.base))); intro _; rotate_left; intro _; rotate_right) | (apply TL.skip; rfl; rfl; rfl) | (apply TL.skip_none; rfl; rfl) | (apply TL.val; rfl; rfl; (apply V.convW (r := .i64) (j := 0); rfl; rfl; rfl; rfl; rfl)) | (apply TL.val; rfl; rfl; (first | exact vpure | exact vread)) | (apply TL.x; rfl; rfl; (first | exact xgrow | exact xput); intro _ _) | (apply TL.guard; rfl; rfl; rfl; (with_reducible (first | exact Is.ndec | exact Is.dec | exact Is.not | ((fail_if_success exact Is.litT); (fail_if_success exact Is.litF); exact Is.base))); intro _; rotate_left; intro _; rotate_right)))
    all_goals (try (exfalso; omega))
    refine N.ret1 rfl (by (exact rvx)) fun w hst => ⟨(0, s, true), ⟨hg, ?_⟩, rfl, hst⟩
    have key : (left s f).bind numCod.rd = none := by
      cases hl : left s f with
      | none => rfl
      | some r =>
        obtain ⟨h3, h4⟩ := left_some.1 hl
        rcases hc with hc | hc
        · rw [hc] at h3; cases h3
        · have : takeR 8 r = none := takeR_none.2 (by rw [← h4]; omega)
          show ((takeR 8 r).map _).map _ = none
          rw [this]
          rfl
    unfold readsTo
    rw [key]
    exact ⟨rfl, rfl⟩
  · have hf : f = false := by cases f <;> simp_all
    subst hf
    have hl : 8 ≤ s.len := by
      have h2 : ¬ s.len < 8 := fun h => hc (.inr h)
      omega
    have hg8 := hg.to (i := 8) hl
    have hl8 : (s.to 8).els.length = 8 := hg8.len
    repeat (any_goals (first | refine T.seq ?_ | refine T.region ?_ | refine TL.nil ?_ | refine N.next ?_ | refine N.inBlock ?_ | refine N.exit_same ?_ | refine N.exit_then ?_ | refine N.ret_then ?_ | refine N.ret_block ?_ | (apply N.exit_other; rfl) | refine T.ret ?_ | refine T.skip ?_ | refine T.exit ?_ | refine T.block ?_ | (apply T.cond_true; rfl) | (apply T.cond_false; rfl) | (apply T.test; rfl; (with_reducible (first | exact Is.ndec | exact Is.dec | exact Is.not | ((fail_if_success exact Is.litT); (fail_if_success exact Is.litF); exact Is.base))); intro _; rotate_left; intro _; rotate_right) | (apply TL.skip; rfl; rfl; rfl) | (apply TL.skip_none; rfl; rfl) | (apply TL.x; rfl; rfl; (apply X.callS0 (f := 231) Tryz.call231; rfl; rfl; exact fun _ hs => c_rtakeT (n := 8) hs hg hl); intro _ _) | (apply TL.val; rfl; rfl; (first | exact vpure | exact vread)) | (apply TL.x; rfl; rfl; (first | exact xgrow | exact xput); intro _ _) | (apply TL.guard; rfl; rfl; rfl; (with_reducible (first | exact Is.ndec | exact Is.dec | exact Is.not | ((fail_if_success exact Is.litT); (fail_if_success exact Is.litF); exact Is.base))); intro _; rotate_left; intro _; rotate_right)))
    all_goals (try (exfalso; omega))
    have ht : takeR 8 s.els = some ((s.to 8).els, (s.drop 8).els) := by
      unfold takeR
      rw [if_pos (by omega)]
      rfl
    have hend : readsTo numCod.rd 0 (left s false) (intOf (wordOf (s.to 8).els)) (left (s.drop 8) false) := by
      unfold readsTo left
      have : numCod.rd s.els = some (intOf (wordOf (s.to 8).els), (s.drop 8).els) := by
        show ((takeR 8 s.els).map _).map _ = _
        rw [ht]
        rfl
      simp [this]
    generalize hq : s.to 8 = q at *
    have hqv : q.len = 8 := by rw [← hq]; rfl
    refine T.loop (G := Nat) (fun k => [(3, .int .u64 ((wordOf (q.els.take k) : Nat) : Int)), (7, q.v), (8, intV 8), (9, intV k)]) (fun _ => H) (fun _ => rrL b (s.drop 8) false :: L) (fun k => k ≤ 8) (fun k => 8 - k) 0 (by decide) (by (repeat (first | exact True.intro | refine ⟨rfl, ?_⟩ | refine Sub.int rfl (by omega) ?_))) rfl (List.Sublist.refl _) ?_
    rintro k hk
    simp only at hk ⊢
    by_cases hlt : k < 8
    · have hkq : k < q.els.length := by omega
      have hw := wordOf_lt k (q.els.take k) (by rw [List.length_take]; omega)
      have hw2 : wordOf (q.els.take k) * 256 < 18446744073709551616 := by
        have h1 : (256 : Nat) ^ k ≤ 256 ^ 7 := Nat.pow_le_pow_right (by decide) (by omega)
        have h2 : (256 : Nat) ^ 7 = 72057594037927936 := by decide
        omega
      have hc8 := (q.els[k]'hkq).toNat_lt
      repeat (any_goals (first | refine T.seq ?_ | refine T.region ?_ | refine TL.nil ?_ | refine N.next ?_ | refine N.inBlock ?_ | refine N.exit_same ?_ | refine N.exit_then ?_ | refine N.ret_then ?_ | refine N.ret_block ?_ | (apply N.exit_other; rfl) | refine T.ret ?_ | refine T.skip ?_ | refine T.exit ?_ | refine T.block ?_ | (apply T.cond_true; rfl) | (apply T.cond_false; rfl) | (apply T.test; rfl; (with_reducible (first | exact Is.ndec | exact Is.dec | exact Is.not | ((fail_if_success exact Is.litT); (fail_if_success exact Is.litF); exact Is.base))); intro _; rotate_left; intro _; rotate_right) | (apply TL.skip; rfl; rfl; rfl) | (apply TL.skip_none; rfl; rfl) | (apply TL.val; rfl; rfl; (apply V.shlN (j := 8); rfl; rfl; decide; exact hw2)) | (apply TL.val; rfl; rfl; (apply V.convW (r := .u64) (j := ((q.els[k]'hkq).toNat : Int)); rfl; rfl; rfl; rfl; exact IntWalk.u64_in _ (by omega))) | (apply TL.val; rfl; rfl; (apply V.orN (m := wordOf (q.els.take (k + 1))); rfl; rfl; exact hw2; omega; (rw [wordOf_take (List.getElem?_eq_getElem hkq)]; exact lor_byte _ _))) | (apply TL.val; rfl; rfl; (first | exact vpure | exact vread)) | (apply TL.x; rfl; rfl; (first | exact xgrow | exact xput); intro _ _) | (apply TL.guard; rfl; rfl; rfl; (with_reducible (first | exact Is.ndec | exact Is.dec | exact Is.not | ((fail_if_success exact Is.litT); (fail_if_success exact Is.litF); exact Is.base))); intro _; rotate_left; intro _; rotate_right)))
      all_goals (try (exfalso; omega))
      refine N.round (k + 1) (by show k + 1 ≤ 8; omega) (by show 8 - (k + 1) < 8 - k; omega) (by (repeat (first | exact True.intro | refine ⟨rfl, ?_⟩ | refine Sub.int rfl (by omega) ?_))) rfl (List.Sublist.refl _)
    · have hk8 : k = 8 := by omega
      subst hk8
      rw [List.take_of_length_le (by omega)]
      have hwl := wordOf_lt 8 q.els (by omega)
      repeat (any_goals (first | refine T.seq ?_ | refine T.region ?_ | refine TL.nil ?_ | refine N.next ?_ | refine N.inBlock ?_ | refine N.exit_same ?_ | refine N.exit_then ?_ | refine N.ret_then ?_ | refine N.ret_block ?_ | (apply N.exit_other; rfl) | refine T.ret ?_ | refine T.skip ?_ | refine T.exit ?_ | refine T.block ?_ | (apply T.cond_true; rfl) | (apply T.cond_false; rfl) | (apply T.test; rfl; (with_reducible (first | exact Is.ndec | exact Is.dec | exact Is.not | ((fail_if_success exact Is.litT); (fail_if_success exact Is.litF); exact Is.base))); intro _; rotate_left; intro _; rotate_right) | (apply TL.skip; rfl; rfl; rfl) | (apply TL.skip_none; rfl; rfl) | (apply TL.val; rfl; rfl; (apply V.convW (r := .i64) (j := intOf (wordOf q.els)); rfl; rfl; rfl; rfl; exact wrap_intOf hwl)) | (apply TL.val; rfl; rfl; (first | exact vpure | exact vread)) | (apply TL.x; rfl; rfl; (first | exact xgrow | exact xput); intro _ _) | (apply TL.guard; rfl; rfl; rfl; (with_reducible (first | exact Is.ndec | exact Is.dec | exact Is.not | ((fail_if_success exact Is.litT); (fail_if_success exact Is.litF); exact Is.base))); intro _; rotate_left; intro _; rotate_right)))
      all_goals (try (exfalso; omega))
      refine N.ret1 rfl (by (exact rvx)) fun w hst => ⟨(intOf (wordOf q.els), s.drop 8, false), ⟨hg.drop hl, hend⟩, rfl, hst⟩
end
end Go.Proofs.YtogcofeencgipaaGreatDoor
