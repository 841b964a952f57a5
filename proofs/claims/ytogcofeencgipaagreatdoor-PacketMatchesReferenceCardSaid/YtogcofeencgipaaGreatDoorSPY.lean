/- Walks: the readers of the references: bytes, numbers, texts. -/
import Derived.Test.YtogcofeencgipaaGreatDoorSPR
import Derived.Test.YtogcofeencgipaaGreatDoorSPH
set_option pp.deepTerms true
set_option pp.maxSteps 10000000
namespace Go.Proofs.YtogcofeencgipaaGreatDoor
set_option linter.unusedVariables false
set_option linter.unusedSimpArgs false
open Go Go.RowKit
set_option maxRecDepth 20000
def byteR : Bytes → Option (UInt8 × Bytes)
  | [] => none
  | c :: r => some (c, r)
/-- What a reader of a reference has left; none: it is bad. -/
def leftA (s : Slc UInt8) (a : Nat) (f : Bool) : Option Bytes := if f then none else some (s.els.drop a)
theorem takeR_succ (k : Nat) (b : Bytes) : takeR (k + 1) b = (takeR k b).bind fun p => (byteR p.2).map fun q => (p.1 ++ [q.1], q.2) := by
  unfold takeR
  by_cases h : k ≤ b.length
  · rw [if_pos h]
    simp only [Option.bind_some]
    by_cases h1 : k + 1 ≤ b.length
    · rw [if_pos h1, List.drop_eq_getElem_cons (show k < b.length by omega)]
      show _ = some (b.take k ++ [b[k]], b.drop (k + 1))
      rw [List.take_append_getElem]
    · have h2 : b.drop k = [] := List.drop_eq_nil_of_le (by omega)
      rw [if_neg h1, h2]; rfl
  · rw [if_neg h, if_neg (by omega)]; rfl
theorem takeR_mono {k n : Nat} {b : Bytes} (h : takeR k b = none) (hn : k ≤ n) : takeR n b = none := by
  rw [takeR_none] at h ⊢; omega
theorem small_byte (b : Bytes) : smallR b = (byteR b).map fun p => (p.1.toNat, p.2) := by cases b <;> rfl
theorem text_byte (b : Bytes) : textCod.rd b = (byteR b).bind fun p => takeR p.1.toNat p.2 := by cases b <;> rfl
/-- One byte more. -/
theorem take_step {st : Option Bytes} {k : Nat} {l : Bytes} {c : UInt8} {s : Slc UInt8} {a a' : Nat} {f f' : Bool} (h : st.bind (takeR k) = (leftA s a f).map fun r => (l, r)) (hc : (leftA s a f).bind byteR = (leftA s a' f').map fun r => (c, r)) : st.bind (takeR (k + 1)) = (leftA s a' f').map fun r => (l ++ [c], r) := by
  cases st with
  | none =>
    cases h1 : leftA s a f with
    | none =>
      rw [h1] at hc
      cases h2 : leftA s a' f' with
      | none => rfl
      | some r => rw [h2] at hc; cases hc
    | some r => rw [h1] at h; cases h
  | some b =>
    simp only [Option.bind_some] at h ⊢
    rw [takeR_succ, h]
    cases h1 : leftA s a f with
    | none =>
      rw [h1] at hc
      cases h2 : leftA s a' f' with
      | none => rfl
      | some r => rw [h2] at hc; cases hc
    | some r =>
      rw [h1] at hc
      simp only [Option.map_some, Option.bind_some] at hc ⊢
      rw [hc]
      cases leftA s a' f' <;> rfl
theorem wordOf_snoc (l : Bytes) (c : UInt8) : wordOf (l ++ [c]) = wordOf l * 256 + c.toNat := by unfold wordOf; simp
theorem take_word {st st' : Option Bytes} {l : Bytes} (h : st.bind (takeR 8) = st'.map fun r => (l, r)) : st.bind wordCod.rd = st'.map fun r => (wordOf l, r) := by
  cases st with
  | none => cases st' with
    | none => rfl
    | some r => cases h
  | some b =>
    simp only [Option.bind_some] at h ⊢
    show (takeR 8 b).map _ = _
    rw [h]
    cases st' <;> rfl
theorem word_num {st st' : Option Bytes} {n : Nat} (h : st.bind wordCod.rd = st'.map fun r => (n, r)) : st.bind numCod.rd = st'.map fun r => (intOf n, r) := by
  cases st with
  | none => cases st' with
    | none => rfl
    | some r => cases h
  | some b =>
    simp only [Option.bind_some] at h ⊢
    show (wordCod.rd b).map _ = _
    rw [h]
    cases st' <;> rfl
theorem byte_small {st st' : Option Bytes} {c : UInt8} (h : st.bind byteR = st'.map fun r => (c, r)) : st.bind smallR = st'.map fun r => (c.toNat, r) := by
  cases st with
  | none => cases st' with
    | none => rfl
    | some r => cases h
  | some b =>
    simp only [Option.bind_some] at h ⊢
    rw [small_byte, h]
    cases st' <;> rfl
theorem byte_text {st st1 st2 : Option Bytes} {c : UInt8} {l : Bytes} (h : st.bind byteR = st1.map fun r => (c, r)) (h2 : st1.bind (takeR c.toNat) = st2.map fun r => (l, r)) : st.bind textCod.rd = st2.map fun r => (l, r) := by
  cases st with
  | none => cases st1 with
    | none => cases st2 with
      | none => rfl
      | some r => cases h2
    | some r => cases h
  | some b =>
    simp only [Option.bind_some] at h ⊢
    rw [text_byte, h]
    cases st1 with
    | none => cases st2 with
      | none => rfl
      | some r => cases h2
    | some r => exact h2
theorem takeA_mono {st : Option Bytes} {s : Slc UInt8} {k n a : Nat} {l : Bytes} (h : st.bind (takeR k) = (leftA s a true).map fun r => (l, r)) (hn : k ≤ n) (l' : Bytes) : st.bind (takeR n) = (leftA s a true).map fun r => (l', r) := by
  cases st with
  | none => rfl
  | some b => exact takeR_mono (show takeR k b = none from h) hn
/-- The end of a reader of a reference. -/
abbrev RdA {α : Type} (t : TypeId) (w0 : World) (H0 H : Hp) (b : Nat) (s : Slc UInt8) (L : List Loc) (ok : Nat → Bool → Prop) (rd : Bytes → Option (α × Bytes)) (ψ : α → Prop) (st : Option Bytes) (v : α → Value) : Ending → World → Prop := fun e w' =>
  ∃ g : α × Nat × Bool, (g.2.1 ≤ s.len ∧ ok g.2.1 g.2.2 ∧ st.bind rd = ((leftA s g.2.1 g.2.2).map fun r => (g.1, r)) ∧ ψ g.1) ∧ e = .returned (v g.1) ∧ St w0 H0 H (.blk b t [s.v, intV g.2.1, .bool g.2.2] :: L) w'
theorem u8_mul {n : Nat} (h : n * 256 < 18446744073709551616) : IntKind.u64.wrap ((n : Int) * 256) = ((n * 256 : Nat) : Int) := by
  have e : ((n : Int) * 256) = ((n * 256 : Nat) : Int) := by omega
  rw [e]
  exact IntWalk.u64_in _ (by omega)
section
variable {P : Program} {n : FK} {S : World → Prop} {env : List (Nat × Value)}
theorem V.addU {t u : TypeId} {x y : Operand} {i j m : Nat} (hx : ev env x = some (.int .u64 i)) (hy : ev env y = some (.int .u64 j)) (hm : i + j = m) (hl : m < 18446744073709551616) : V P n S env (.binOp .add t x y u) (.int .u64 m) :=
  ⟨fun o A w ho hf _ => by
    have e : IntKind.u64.wrap ((i : Int) + j) = (m : Int) := by
      rw [show ((i : Int) + j) = (m : Int) by omega]
      exact IntWalk.u64_in _ (by omega)
    unfold execOp; rw [ho]; simp [hf.ev hx, hf.ev hy, binOp, eqGuard, Op.intArith, e]⟩
end
section
variable {w0 w : World} {H0 H : Hp} {L : List Loc} {b : Nat}
abbrev ok02 (s : Slc UInt8) (a : Nat) (f : Bool) : Prop := f = true → a = s.len
theorem c_next02 {s : Slc UInt8} {a : Nat} {f : Bool} (hs : St w0 H0 H (.blk b 213 [s.v, intV a, .bool f] :: L) w) (hg : s.Good H) (ha : a ≤ s.len) (hf : ok02 s a f) : CallsIn (FW none) 0 Tryz.prog 179 #[.pointer (some ⟨b, 0, none⟩)] w (RdA 213 w0 H0 H b s L (ok02 s) byteR (fun c => f = true → c = 0) (leftA s a f) (fun c => .int .u8 c.toNat)) := by
  have hlen := hg.len
  have hlim := hg.lim
  refine T.enterIn (vs := [.pointer (some ⟨b, 0, none⟩)]) Tryz.func179 rfl rfl rfl hs ?_
  by_cases hc : s.len ≤ a
  · skip
    repeat (any_goals (first | refine T.seq ?_ | refine T.region ?_ | (apply T.regionD wide; rfl) | refine TL.nil ?_ | refine N.next ?_ | refine N.inBlock ?_ | refine N.exit_same ?_ | refine N.exit_then ?_ | refine N.ret_then ?_ | refine N.ret_block ?_ | (apply N.exit_other; rfl) | refine T.ret ?_ | refine T.skip ?_ | refine T.exit ?_ | refine T.block ?_ | (apply T.cond_true; rfl) | (apply T.cond_false; rfl) | (apply T.test; rfl; (with_reducible (first | exact Is.ndec | exact Is.dec | exact Is.not | ((fail_if_success exact Is.litT); (fail_if_success exact Is.litF); exact Is.base))); intro _; rotate_left; intro _; rotate_right) | (apply TL.skip; rfl; rfl; rfl) | (apply TL.skip_none; rfl; rfl) | (apply GT.skip; rfl; rfl; rfl; decide +kernel) | (apply TL.val; rfl; rfl; (apply V.nilCheck; rfl)) | (apply GT.pure; rfl; rfl; rfl; rfl; (apply V.nilCheck; rfl); decide +kernel) | (apply GT.read; rfl; rfl; rfl; rfl; (apply V.nilCheck; rfl); decide +kernel) | (apply TL.x; rfl; rfl; (apply X.storeTo 0 [s.v, intV a, .bool true]; rfl; rfl; rfl; rfl; rfl; rfl; rfl; rfl; rfl; rfl); intro _ _) | (apply GS.eff; rfl; decide +kernel; rfl; (apply X.storeTo 0 [s.v, intV a, .bool true]; rfl; rfl; rfl; rfl; rfl; rfl; rfl; rfl; rfl; rfl); intro _ _) | (apply TL.val; rfl; rfl; (first | exact vpure | exact vread)) | (apply GT.pure; rfl; rfl; rfl; rfl; (first | exact vpure); decide +kernel) | (apply GT.read; rfl; rfl; rfl; rfl; (first | exact vpure | exact vread); decide +kernel) | (apply GT.done; decide +kernel; apply N.ofQ) | (apply GT.adv; rfl) | (apply TL.x; rfl; rfl; (first | exact xgrow | exact xput); intro _ _) | (apply GS.grow; rfl; rfl; (first | exact xgrow); intro _ _) | (apply GS.eff; rfl; decide +kernel; rfl; (first | exact xput); intro _ _) | (apply TL.guard; rfl; rfl; rfl; (with_reducible (first | exact Is.ndec | exact Is.dec | exact Is.not | ((fail_if_success exact Is.litT); (fail_if_success exact Is.litF); exact Is.base))); intro _; rotate_left; intro _; rotate_right) | (apply GT.guard; rfl; rfl; rfl; rfl; (with_reducible (first | exact Is.ndec | exact Is.dec | exact Is.not | ((fail_if_success exact Is.litT); (fail_if_success exact Is.litF); exact Is.base))); intro _; rotate_left; intro _; rotate_right) | (apply GT.fork1; decide +kernel) | (apply GT.fork2 1; decide +kernel) | (apply GT.fork2 2; decide +kernel) | (apply GT.fork2 3; decide +kernel) | (apply GT.fork2 4; decide +kernel) | (apply GT.fork2 5; decide +kernel) | (apply GT.fork2 6; decide +kernel) | (apply GT.fork2 7; decide +kernel) | (apply GT.fork2 8; decide +kernel) | (apply GT.fork2 9; decide +kernel) | (apply GT.fork2 10; decide +kernel) | (apply GT.fork2 11; decide +kernel) | (apply GT.fork2 12; decide +kernel) | (apply GT.fork2 13; decide +kernel) | (apply GT.fork2 14; decide +kernel) | (apply GT.fork2 15; decide +kernel) | (apply GT.fork2 16; decide +kernel) | (apply GT.fork2 17; decide +kernel) | (apply GT.fork2 18; decide +kernel) | (apply GT.fork2 19; decide +kernel) | (apply GT.fork2 20; decide +kernel) | (apply GT.fork2 21; decide +kernel) | (apply GT.fork2 22; decide +kernel) | (apply GT.fork2 23; decide +kernel)))
    all_goals (try (exfalso; omega))
    all_goals (try contradiction)
    all_goals (refine N.ret1 rfl (by (exact rvx)) fun w hst => ⟨(0, a, true), ⟨ha, (fun _ => by show a = s.len; omega), ?_, fun _ => rfl⟩, rfl, hst⟩)
    all_goals
      cases f with
      | true => rfl
      | false =>
        have h0 : s.els.drop a = [] := List.drop_eq_nil_of_le (by omega)
        show byteR (s.els.drop a) = none
        rw [h0]; rfl
  · have hff : f = false := by
      cases f with
      | false => rfl
      | true => have : a = s.len := hf rfl; omega
    subst hff
    have hlt : a < s.len := by omega
    have hk : a < s.els.length := by omega
    have hx : s.els[a]? = some (s.els[a]'hk) := List.getElem?_eq_getElem hk
    repeat (any_goals (first | refine T.seq ?_ | refine T.region ?_ | (apply T.regionD wide; rfl) | refine TL.nil ?_ | refine N.next ?_ | refine N.inBlock ?_ | refine N.exit_same ?_ | refine N.exit_then ?_ | refine N.ret_then ?_ | refine N.ret_block ?_ | (apply N.exit_other; rfl) | refine T.ret ?_ | refine T.skip ?_ | refine T.exit ?_ | refine T.block ?_ | (apply T.cond_true; rfl) | (apply T.cond_false; rfl) | (apply T.test; rfl; (with_reducible (first | exact Is.ndec | exact Is.dec | exact Is.not | ((fail_if_success exact Is.litT); (fail_if_success exact Is.litF); exact Is.base))); intro _; rotate_left; intro _; rotate_right) | (apply TL.skip; rfl; rfl; rfl) | (apply TL.skip_none; rfl; rfl) | (apply GT.skip; rfl; rfl; rfl; decide +kernel) | (apply TL.val; rfl; rfl; (apply V.nilCheck; rfl)) | (apply GT.pure; rfl; rfl; rfl; rfl; (apply V.nilCheck; rfl); decide +kernel) | (apply GT.read; rfl; rfl; rfl; rfl; (apply V.nilCheck; rfl); decide +kernel) | (apply TL.x; rfl; rfl; (apply X.storeTo 0 [s.v, intV ((a + 1 : Nat) : Int), .bool false]; rfl; rfl; rfl; rfl; rfl; rfl; rfl; rfl; rfl; rfl); intro _ _) | (apply GS.eff; rfl; decide +kernel; rfl; (apply X.storeTo 0 [s.v, intV ((a + 1 : Nat) : Int), .bool false]; rfl; rfl; rfl; rfl; rfl; rfl; rfl; rfl; rfl; rfl); intro _ _) | (apply TL.val; rfl; rfl; (apply V.elem (j := a); rfl; rfl; rfl; rfl; rfl; omega; omega; exact hg.at_ (by omega))) | (apply GT.pure; rfl; rfl; rfl; rfl; (apply V.elem (j := a); rfl; rfl; rfl; rfl; rfl; omega; omega; exact hg.at_ (by omega)); decide +kernel) | (apply GT.read; rfl; rfl; rfl; rfl; (apply V.elem (j := a); rfl; rfl; rfl; rfl; rfl; omega; omega; exact hg.at_ (by omega)); decide +kernel) | (apply TL.val; rfl; rfl; (apply V.load_H (v := .int .u8 (s.els[a]'hk).toNat); rfl; rfl; rfl; exact hg.byte hx rfl)) | (apply GT.pure; rfl; rfl; rfl; rfl; (apply V.load_H (v := .int .u8 (s.els[a]'hk).toNat); rfl; rfl; rfl; exact hg.byte hx rfl); decide +kernel) | (apply GT.read; rfl; rfl; rfl; rfl; (apply V.load_H (v := .int .u8 (s.els[a]'hk).toNat); rfl; rfl; rfl; exact hg.byte hx rfl); decide +kernel) | (apply TL.val; rfl; rfl; (first | exact vpure | exact vread)) | (apply GT.pure; rfl; rfl; rfl; rfl; (first | exact vpure); decide +kernel) | (apply GT.read; rfl; rfl; rfl; rfl; (first | exact vpure | exact vread); decide +kernel) | (apply GT.done; decide +kernel; apply N.ofQ) | (apply GT.adv; rfl) | (apply TL.x; rfl; rfl; (first | exact xgrow | exact xput); intro _ _) | (apply GS.grow; rfl; rfl; (first | exact xgrow); intro _ _) | (apply GS.eff; rfl; decide +kernel; rfl; (first | exact xput); intro _ _) | (apply TL.guard; rfl; rfl; rfl; (with_reducible (first | exact Is.ndec | exact Is.dec | exact Is.not | ((fail_if_success exact Is.litT); (fail_if_success exact Is.litF); exact Is.base))); intro _; rotate_left; intro _; rotate_right) | (apply GT.guard; rfl; rfl; rfl; rfl; (with_reducible (first | exact Is.ndec | exact Is.dec | exact Is.not | ((fail_if_success exact Is.litT); (fail_if_success exact Is.litF); exact Is.base))); intro _; rotate_left; intro _; rotate_right) | (apply GT.fork1; decide +kernel) | (apply GT.fork2 1; decide +kernel) | (apply GT.fork2 2; decide +kernel) | (apply GT.fork2 3; decide +kernel) | (apply GT.fork2 4; decide +kernel) | (apply GT.fork2 5; decide +kernel) | (apply GT.fork2 6; decide +kernel) | (apply GT.fork2 7; decide +kernel) | (apply GT.fork2 8; decide +kernel) | (apply GT.fork2 9; decide +kernel) | (apply GT.fork2 10; decide +kernel) | (apply GT.fork2 11; decide +kernel) | (apply GT.fork2 12; decide +kernel) | (apply GT.fork2 13; decide +kernel) | (apply GT.fork2 14; decide +kernel) | (apply GT.fork2 15; decide +kernel) | (apply GT.fork2 16; decide +kernel) | (apply GT.fork2 17; decide +kernel) | (apply GT.fork2 18; decide +kernel) | (apply GT.fork2 19; decide +kernel) | (apply GT.fork2 20; decide +kernel) | (apply GT.fork2 21; decide +kernel) | (apply GT.fork2 22; decide +kernel) | (apply GT.fork2 23; decide +kernel)))
    all_goals (try (exfalso; omega))
    all_goals (try contradiction)
    all_goals (refine N.ret1 rfl (by (exact rvx)) fun w hst => ⟨(s.els[a]'hk, a + 1, false), ⟨by show a + 1 ≤ _; omega, (fun h => by cases h), ?_, fun h => by cases h⟩, rfl, hst⟩)
    all_goals
      show byteR (s.els.drop a) = _
      rw [List.drop_eq_getElem_cons hk]; rfl
set_option maxHeartbeats 1000000 in
theorem c_value02 {s : Slc UInt8} {a : Nat} {f : Bool} (hs : St w0 H0 H (.blk b 213 [s.v, intV a, .bool f] :: L) w) (hg : s.Good H) (ha : a ≤ s.len) (hf : ok02 s a f) : CallsIn (FW none) 0 Tryz.prog 178 #[.pointer (some ⟨b, 0, none⟩)] w (RdA 213 w0 H0 H b s L (ok02 s) numCod.rd I64 (leftA s a f) (fun n => intV n)) := by
  have hlen := hg.len
  have hlim := hg.lim
  refine T.enterIn (vs := [.pointer (some ⟨b, 0, none⟩)]) Tryz.func178 rfl rfl rfl hs ?_
  repeat (any_goals (first | refine T.seq ?_ | refine T.region ?_ | refine TL.nil ?_ | refine N.next ?_ | refine N.inBlock ?_ | refine N.exit_same ?_ | refine N.exit_then ?_ | refine N.ret_then ?_ | refine N.ret_block ?_ | (apply N.exit_other; rfl) | refine T.ret ?_ | refine T.skip ?_ | refine T.exit ?_ | refine T.block ?_ | (apply T.cond_true; rfl) | (apply T.cond_false; rfl) | (apply T.test; rfl; (with_reducible (first | exact Is.ndec | exact Is.dec | exact Is.not | ((fail_if_success exact Is.litT); (fail_if_success exact Is.litF); exact Is.base))); intro _; rotate_left; intro _; rotate_right) | (apply TL.skip; rfl; rfl; rfl) | (apply TL.skip_none; rfl; rfl) | (apply TL.val; rfl; rfl; (first | exact vpure | exact vread)) | (apply TL.x; rfl; rfl; (first | exact xgrow | exact xput); intro _ _) | (apply TL.guard; rfl; rfl; rfl; (with_reducible (first | exact Is.ndec | exact Is.dec | exact Is.not | ((fail_if_success exact Is.litT); (fail_if_success exact Is.litF); exact Is.base))); intro _; rotate_left; intro _; rotate_right)))
  refine T.loop (G := Bytes × Nat × Bool) (fun g => [(0, .pointer (some ⟨b, 0, none⟩)), (3, .int .u64 ((wordOf g.1 : Nat) : Int)), (4, intV g.1.length)]) (fun _ => H) (fun g => .blk b 213 [s.v, intV g.2.1, .bool g.2.2] :: L) (fun g => g.1.length ≤ 8 ∧ g.2.1 ≤ s.len ∧ ok02 s g.2.1 g.2.2 ∧ (leftA s a f).bind (takeR g.1.length) = (leftA s g.2.1 g.2.2).map fun r => (g.1, r)) (fun g => 8 - g.1.length) ([], a, f) ⟨Nat.zero_le 8, ha, hf, by cases f <;> simp [leftA, takeR]⟩ (by (repeat (first | exact True.intro | refine ⟨rfl, ?_⟩ | refine Sub.int rfl (by omega) ?_))) rfl (List.Sublist.refl _) ?_
  rintro ⟨l, a', f'⟩ ⟨hl, ha', hf', hr⟩
  simp only at hl ha' hf' hr ⊢
  have hw := wordOf_lt l.length l (Nat.le_refl _)
  by_cases hlt : l.length < 8
  · have hw2 : wordOf l * 256 < 18446744073709551616 := by
      have h1 : (256 : Nat) ^ l.length ≤ 256 ^ 7 := Nat.pow_le_pow_right (by decide) (by omega)
      have h2 : (256 : Nat) ^ 7 = 72057594037927936 := by decide
      omega
    repeat (any_goals (first | refine T.seq ?_ | refine T.region ?_ | refine TL.nil ?_ | refine N.next ?_ | refine N.inBlock ?_ | refine N.exit_same ?_ | refine N.exit_then ?_ | refine N.ret_then ?_ | refine N.ret_block ?_ | (apply N.exit_other; rfl) | refine T.ret ?_ | refine T.skip ?_ | refine T.exit ?_ | refine T.block ?_ | (apply T.cond_true; rfl) | (apply T.cond_false; rfl) | (apply T.test; rfl; (with_reducible (first | exact Is.ndec | exact Is.dec | exact Is.not | ((fail_if_success exact Is.litT); (fail_if_success exact Is.litF); exact Is.base))); intro _; rotate_left; intro _; rotate_right) | (apply TL.skip; rfl; rfl; rfl) | (apply TL.skip_none; rfl; rfl) | (apply TL.val; rfl; rfl; (apply V.mulU (m := ((wordOf l * 256 : Nat) : Int)); rfl; rfl; exact u8_mul hw2)) | (apply TL.x; rfl; rfl; (apply X.callS0 (f := 179) Tryz.call179; rfl; rfl; exact fun _ hs => c_next02 hs hg ha' hf'); intro p hp; obtain ⟨c, a2, f2⟩ := p; obtain ⟨ha2, hf2, hc, _⟩ := hp; simp only at ha2 hf2 hc ⊢; have hcl := c.toNat_lt) | (apply TL.val; rfl; rfl; (apply V.convW (r := .u64) (j := (c.toNat : Int)); rfl; rfl; rfl; rfl; exact IntWalk.u64_in _ (by omega))) | (apply TL.val; rfl; rfl; (apply V.addU (m := wordOf (l ++ [c])); rfl; rfl; exact (wordOf_snoc l c).symm; (rw [wordOf_snoc]; omega))) | (apply TL.val; rfl; rfl; (first | exact vpure | exact vread)) | (apply TL.x; rfl; rfl; (first | exact xgrow | exact xput); intro _ _) | (apply TL.guard; rfl; rfl; rfl; (with_reducible (first | exact Is.ndec | exact Is.dec | exact Is.not | ((fail_if_success exact Is.litT); (fail_if_success exact Is.litF); exact Is.base))); intro _; rotate_left; intro _; rotate_right)))
    all_goals (try (exfalso; omega))
    all_goals (refine N.round (l ++ [c], a2, f2) ⟨by simp; omega, ha2, hf2, by simp only [List.length_append, List.length_cons, List.length_nil]; exact take_step hr hc⟩ (by show 8 - (l ++ [c]).length < 8 - l.length; simp; omega) (by simp only [List.length_append, List.length_cons, List.length_nil]; (repeat (first | exact True.intro | refine ⟨rfl, ?_⟩ | refine Sub.int rfl (by omega) ?_))) rfl (List.Sublist.refl _))
  · have hl8 : l.length = 8 := by omega
    rw [hl8] at hr hw
    repeat (any_goals (first | refine T.seq ?_ | refine T.region ?_ | refine TL.nil ?_ | refine N.next ?_ | refine N.inBlock ?_ | refine N.exit_same ?_ | refine N.exit_then ?_ | refine N.ret_then ?_ | refine N.ret_block ?_ | (apply N.exit_other; rfl) | refine T.ret ?_ | refine T.skip ?_ | refine T.exit ?_ | refine T.block ?_ | (apply T.cond_true; rfl) | (apply T.cond_false; rfl) | (apply T.test; rfl; (with_reducible (first | exact Is.ndec | exact Is.dec | exact Is.not | ((fail_if_success exact Is.litT); (fail_if_success exact Is.litF); exact Is.base))); intro _; rotate_left; intro _; rotate_right) | (apply TL.skip; rfl; rfl; rfl) | (apply TL.skip_none; rfl; rfl) | (apply TL.val; rfl; rfl; (apply V.convW (r := .i64) (j := intOf (wordOf l)); rfl; rfl; rfl; rfl; exact wrap_intOf hw)) | (apply TL.val; rfl; rfl; (first | exact vpure | exact vread)) | (apply TL.x; rfl; rfl; (first | exact xgrow | exact xput); intro _ _) | (apply TL.guard; rfl; rfl; rfl; (with_reducible (first | exact Is.ndec | exact Is.dec | exact Is.not | ((fail_if_success exact Is.litT); (fail_if_success exact Is.litF); exact Is.base))); intro _; rotate_left; intro _; rotate_right)))
    all_goals (try (exfalso; omega))
    all_goals (refine N.ret1 rfl (by (exact rvx)) fun w hst => ⟨(intOf (wordOf l), a', f'), ⟨ha', hf', ?_, ?_⟩, rfl, hst⟩)
    · exact word_num (take_word hr)
    · exact intOf_i64 hw
abbrev ok26 (s : Slc UInt8) (a : Nat) (f : Bool) : Prop := True
theorem c_next26 {s : Slc UInt8} {a : Nat} {f : Bool} (hs : St w0 H0 H (.blk b 110 [s.v, intV a, .bool f] :: L) w) (hg : s.Good H) (ha : a ≤ s.len) (hf : ok26 s a f) : CallsIn (FW none) 0 Tryz.prog 63 #[.pointer (some ⟨b, 0, none⟩)] w (RdA 110 w0 H0 H b s L (ok26 s) byteR (fun c => f = true → c = 0) (leftA s a f) (fun c => .int .u8 c.toNat)) := by
  have hlen := hg.len
  have hlim := hg.lim
  refine T.enterIn (vs := [.pointer (some ⟨b, 0, none⟩)]) Tryz.func63 rfl rfl rfl hs ?_
  cases f with
  | true =>
    repeat (any_goals (first | refine T.seq ?_ | refine T.region ?_ | (apply T.regionD wide; rfl) | refine TL.nil ?_ | refine N.next ?_ | refine N.inBlock ?_ | refine N.exit_same ?_ | refine N.exit_then ?_ | refine N.ret_then ?_ | refine N.ret_block ?_ | (apply N.exit_other; rfl) | refine T.ret ?_ | refine T.skip ?_ | refine T.exit ?_ | refine T.block ?_ | (apply T.cond_true; rfl) | (apply T.cond_false; rfl) | (apply T.test; rfl; (with_reducible (first | exact Is.ndec | exact Is.dec | exact Is.not | ((fail_if_success exact Is.litT); (fail_if_success exact Is.litF); exact Is.base))); intro _; rotate_left; intro _; rotate_right) | (apply TL.skip; rfl; rfl; rfl) | (apply TL.skip_none; rfl; rfl) | (apply GT.skip; rfl; rfl; rfl; decide +kernel) | (apply TL.val; rfl; rfl; (apply V.nilCheck; rfl)) | (apply GT.pure; rfl; rfl; rfl; rfl; (apply V.nilCheck; rfl); decide +kernel) | (apply GT.read; rfl; rfl; rfl; rfl; (apply V.nilCheck; rfl); decide +kernel) | (apply TL.x; rfl; rfl; (apply X.storeTo 0 [s.v, intV a, .bool true]; rfl; rfl; rfl; rfl; rfl; rfl; rfl; rfl; rfl; rfl); intro _ _) | (apply GS.eff; rfl; decide +kernel; rfl; (apply X.storeTo 0 [s.v, intV a, .bool true]; rfl; rfl; rfl; rfl; rfl; rfl; rfl; rfl; rfl; rfl); intro _ _) | (apply TL.val; rfl; rfl; (first | exact vpure | exact vread)) | (apply GT.pure; rfl; rfl; rfl; rfl; (first | exact vpure); decide +kernel) | (apply GT.read; rfl; rfl; rfl; rfl; (first | exact vpure | exact vread); decide +kernel) | (apply GT.done; decide +kernel; apply N.ofQ) | (apply GT.adv; rfl) | (apply TL.x; rfl; rfl; (first | exact xgrow | exact xput); intro _ _) | (apply GS.grow; rfl; rfl; (first | exact xgrow); intro _ _) | (apply GS.eff; rfl; decide +kernel; rfl; (first | exact xput); intro _ _) | (apply TL.guard; rfl; rfl; rfl; (with_reducible (first | exact Is.ndec | exact Is.dec | exact Is.not | ((fail_if_success exact Is.litT); (fail_if_success exact Is.litF); exact Is.base))); intro _; rotate_left; intro _; rotate_right) | (apply GT.guard; rfl; rfl; rfl; rfl; (with_reducible (first | exact Is.ndec | exact Is.dec | exact Is.not | ((fail_if_success exact Is.litT); (fail_if_success exact Is.litF); exact Is.base))); intro _; rotate_left; intro _; rotate_right) | (apply GT.fork1; decide +kernel) | (apply GT.fork2 1; decide +kernel) | (apply GT.fork2 2; decide +kernel) | (apply GT.fork2 3; decide +kernel) | (apply GT.fork2 4; decide +kernel) | (apply GT.fork2 5; decide +kernel) | (apply GT.fork2 6; decide +kernel) | (apply GT.fork2 7; decide +kernel) | (apply GT.fork2 8; decide +kernel) | (apply GT.fork2 9; decide +kernel) | (apply GT.fork2 10; decide +kernel) | (apply GT.fork2 11; decide +kernel) | (apply GT.fork2 12; decide +kernel) | (apply GT.fork2 13; decide +kernel) | (apply GT.fork2 14; decide +kernel) | (apply GT.fork2 15; decide +kernel) | (apply GT.fork2 16; decide +kernel) | (apply GT.fork2 17; decide +kernel) | (apply GT.fork2 18; decide +kernel) | (apply GT.fork2 19; decide +kernel) | (apply GT.fork2 20; decide +kernel) | (apply GT.fork2 21; decide +kernel) | (apply GT.fork2 22; decide +kernel) | (apply GT.fork2 23; decide +kernel)))
    all_goals (try (exfalso; omega))
    all_goals (try contradiction)
    all_goals (refine N.ret1 rfl (by (exact rvx)) fun w hst => ⟨(0, a, true), ⟨ha, trivial, ?_, fun _ => rfl⟩, rfl, hst⟩)
    all_goals rfl
  | false =>
    by_cases hc : s.len ≤ a
    · skip
      repeat (any_goals (first | refine T.seq ?_ | refine T.region ?_ | (apply T.regionD wide; rfl) | refine TL.nil ?_ | refine N.next ?_ | refine N.inBlock ?_ | refine N.exit_same ?_ | refine N.exit_then ?_ | refine N.ret_then ?_ | refine N.ret_block ?_ | (apply N.exit_other; rfl) | refine T.ret ?_ | refine T.skip ?_ | refine T.exit ?_ | refine T.block ?_ | (apply T.cond_true; rfl) | (apply T.cond_false; rfl) | (apply T.test; rfl; (with_reducible (first | exact Is.ndec | exact Is.dec | exact Is.not | ((fail_if_success exact Is.litT); (fail_if_success exact Is.litF); exact Is.base))); intro _; rotate_left; intro _; rotate_right) | (apply TL.skip; rfl; rfl; rfl) | (apply TL.skip_none; rfl; rfl) | (apply GT.skip; rfl; rfl; rfl; decide +kernel) | (apply TL.val; rfl; rfl; (apply V.nilCheck; rfl)) | (apply GT.pure; rfl; rfl; rfl; rfl; (apply V.nilCheck; rfl); decide +kernel) | (apply GT.read; rfl; rfl; rfl; rfl; (apply V.nilCheck; rfl); decide +kernel) | (apply TL.x; rfl; rfl; (apply X.storeTo 0 [s.v, intV a, .bool true]; rfl; rfl; rfl; rfl; rfl; rfl; rfl; rfl; rfl; rfl); intro _ _) | (apply GS.eff; rfl; decide +kernel; rfl; (apply X.storeTo 0 [s.v, intV a, .bool true]; rfl; rfl; rfl; rfl; rfl; rfl; rfl; rfl; rfl; rfl); intro _ _) | (apply TL.val; rfl; rfl; (first | exact vpure | exact vread)) | (apply GT.pure; rfl; rfl; rfl; rfl; (first | exact vpure); decide +kernel) | (apply GT.read; rfl; rfl; rfl; rfl; (first | exact vpure | exact vread); decide +kernel) | (apply GT.done; decide +kernel; apply N.ofQ) | (apply GT.adv; rfl) | (apply TL.x; rfl; rfl; (first | exact xgrow | exact xput); intro _ _) | (apply GS.grow; rfl; rfl; (first | exact xgrow); intro _ _) | (apply GS.eff; rfl; decide +kernel; rfl; (first | exact xput); intro _ _) | (apply TL.guard; rfl; rfl; rfl; (with_reducible (first | exact Is.ndec | exact Is.dec | exact Is.not | ((fail_if_success exact Is.litT); (fail_if_success exact Is.litF); exact Is.base))); intro _; rotate_left; intro _; rotate_right) | (apply GT.guard; rfl; rfl; rfl; rfl; (with_reducible (first | exact Is.ndec | exact Is.dec | exact Is.not | ((fail_if_success exact Is.litT); (fail_if_success exact Is.litF); exact Is.base))); intro _; rotate_left; intro _; rotate_right) | (apply GT.fork1; decide +kernel) | (apply GT.fork2 1; decide +kernel) | (apply GT.fork2 2; decide +kernel) | (apply GT.fork2 3; decide +kernel) | (apply GT.fork2 4; decide +kernel) | (apply GT.fork2 5; decide +kernel) | (apply GT.fork2 6; decide +kernel) | (apply GT.fork2 7; decide +kernel) | (apply GT.fork2 8; decide +kernel) | (apply GT.fork2 9; decide +kernel) | (apply GT.fork2 10; decide +kernel) | (apply GT.fork2 11; decide +kernel) | (apply GT.fork2 12; decide +kernel) | (apply GT.fork2 13; decide +kernel) | (apply GT.fork2 14; decide +kernel) | (apply GT.fork2 15; decide +kernel) | (apply GT.fork2 16; decide +kernel) | (apply GT.fork2 17; decide +kernel) | (apply GT.fork2 18; decide +kernel) | (apply GT.fork2 19; decide +kernel) | (apply GT.fork2 20; decide +kernel) | (apply GT.fork2 21; decide +kernel) | (apply GT.fork2 22; decide +kernel) | (apply GT.fork2 23; decide +kernel)))
      all_goals (try (exfalso; omega))
      all_goals (try contradiction)
      all_goals (refine N.ret1 rfl (by (exact rvx)) fun w hst => ⟨(0, a, true), ⟨ha, trivial, ?_, fun _ => rfl⟩, rfl, hst⟩)
      all_goals
        have h0 : s.els.drop a = [] := List.drop_eq_nil_of_le (by omega)
        show byteR (s.els.drop a) = none
        rw [h0]; rfl
    · skip
      have hlt : a < s.len := by omega
      have hk : a < s.els.length := by omega
      have hx : s.els[a]? = some (s.els[a]'hk) := List.getElem?_eq_getElem hk
      repeat (any_goals (first | refine T.seq ?_ | refine T.region ?_ | (apply T.regionD wide; rfl) | refine TL.nil ?_ | refine N.next ?_ | refine N.inBlock ?_ | refine N.exit_same ?_ | refine N.exit_then ?_ | refine N.ret_then ?_ | refine N.ret_block ?_ | (apply N.exit_other; rfl) | refine T.ret ?_ | refine T.skip ?_ | refine T.exit ?_ | refine T.block ?_ | (apply T.cond_true; rfl) | (apply T.cond_false; rfl) | (apply T.test; rfl; (with_reducible (first | exact Is.ndec | exact Is.dec | exact Is.not | ((fail_if_success exact Is.litT); (fail_if_success exact Is.litF); exact Is.base))); intro _; rotate_left; intro _; rotate_right) | (apply TL.skip; rfl; rfl; rfl) | (apply TL.skip_none; rfl; rfl) | (apply GT.skip; rfl; rfl; rfl; decide +kernel) | (apply TL.val; rfl; rfl; (apply V.nilCheck; rfl)) | (apply GT.pure; rfl; rfl; rfl; rfl; (apply V.nilCheck; rfl); decide +kernel) | (apply GT.read; rfl; rfl; rfl; rfl; (apply V.nilCheck; rfl); decide +kernel) | (apply TL.x; rfl; rfl; (apply X.storeTo 0 [s.v, intV ((a + 1 : Nat) : Int), .bool false]; rfl; rfl; rfl; rfl; rfl; rfl; rfl; rfl; rfl; rfl); intro _ _) | (apply GS.eff; rfl; decide +kernel; rfl; (apply X.storeTo 0 [s.v, intV ((a + 1 : Nat) : Int), .bool false]; rfl; rfl; rfl; rfl; rfl; rfl; rfl; rfl; rfl; rfl); intro _ _) | (apply TL.val; rfl; rfl; (apply V.elem (j := a); rfl; rfl; rfl; rfl; rfl; omega; omega; exact hg.at_ (by omega))) | (apply GT.pure; rfl; rfl; rfl; rfl; (apply V.elem (j := a); rfl; rfl; rfl; rfl; rfl; omega; omega; exact hg.at_ (by omega)); decide +kernel) | (apply GT.read; rfl; rfl; rfl; rfl; (apply V.elem (j := a); rfl; rfl; rfl; rfl; rfl; omega; omega; exact hg.at_ (by omega)); decide +kernel) | (apply TL.val; rfl; rfl; (apply V.load_H (v := .int .u8 (s.els[a]'hk).toNat); rfl; rfl; rfl; exact hg.byte hx rfl)) | (apply GT.pure; rfl; rfl; rfl; rfl; (apply V.load_H (v := .int .u8 (s.els[a]'hk).toNat); rfl; rfl; rfl; exact hg.byte hx rfl); decide +kernel) | (apply GT.read; rfl; rfl; rfl; rfl; (apply V.load_H (v := .int .u8 (s.els[a]'hk).toNat); rfl; rfl; rfl; exact hg.byte hx rfl); decide +kernel) | (apply TL.val; rfl; rfl; (first | exact vpure | exact vread)) | (apply GT.pure; rfl; rfl; rfl; rfl; (first | exact vpure); decide +kernel) | (apply GT.read; rfl; rfl; rfl; rfl; (first | exact vpure | exact vread); decide +kernel) | (apply GT.done; decide +kernel; apply N.ofQ) | (apply GT.adv; rfl) | (apply TL.x; rfl; rfl; (first | exact xgrow | exact xput); intro _ _) | (apply GS.grow; rfl; rfl; (first | exact xgrow); intro _ _) | (apply GS.eff; rfl; decide +kernel; rfl; (first | exact xput); intro _ _) | (apply TL.guard; rfl; rfl; rfl; (with_reducible (first | exact Is.ndec | exact Is.dec | exact Is.not | ((fail_if_success exact Is.litT); (fail_if_success exact Is.litF); exact Is.base))); intro _; rotate_left; intro _; rotate_right) | (apply GT.guard; rfl; rfl; rfl; rfl; (with_reducible (first | exact Is.ndec | exact Is.dec | exact Is.not | ((fail_if_success exact Is.litT); (fail_if_success exact Is.litF); exact Is.base))); intro _; rotate_left; intro _; rotate_right) | (apply GT.fork1; decide +kernel) | (apply GT.fork2 1; decide +kernel) | (apply GT.fork2 2; decide +kernel) | (apply GT.fork2 3; decide +kernel) | (apply GT.fork2 4; decide +kernel) | (apply GT.fork2 5; decide +kernel) | (apply GT.fork2 6; decide +kernel) | (apply GT.fork2 7; decide +kernel) | (apply GT.fork2 8; decide +kernel) | (apply GT.fork2 9; decide +kernel) | (apply GT.fork2 10; decide +kernel) | (apply GT.fork2 11; decide +kernel) | (apply GT.fork2 12; decide +kernel) | (apply GT.fork2 13; decide +kernel) | (apply GT.fork2 14; decide +kernel) | (apply GT.fork2 15; decide +kernel) | (apply GT.fork2 16; decide +kernel) | (apply GT.fork2 17; decide +kernel) | (apply GT.fork2 18; decide +kernel) | (apply GT.fork2 19; decide +kernel) | (apply GT.fork2 20; decide +kernel) | (apply GT.fork2 21; decide +kernel) | (apply GT.fork2 22; decide +kernel) | (apply GT.fork2 23; decide +kernel)))
      all_goals (try (exfalso; omega))
      all_goals (try contradiction)
      all_goals (refine N.ret1 rfl (by (exact rvx)) fun w hst => ⟨(s.els[a]'hk, a + 1, false), ⟨by show a + 1 ≤ _; omega, trivial, ?_, fun h => by cases h⟩, rfl, hst⟩)
      all_goals
        show byteR (s.els.drop a) = _
        rw [List.drop_eq_getElem_cons hk]; rfl
set_option maxHeartbeats 1000000 in
theorem c_value26 {s : Slc UInt8} {a : Nat} {f : Bool} (hs : St w0 H0 H (.blk b 110 [s.v, intV a, .bool f] :: L) w) (hg : s.Good H) (ha : a ≤ s.len) (hf : ok26 s a f) : CallsIn (FW none) 0 Tryz.prog 61 #[.pointer (some ⟨b, 0, none⟩)] w (RdA 110 w0 H0 H b s L (ok26 s) wordCod.rd (fun n => n < 18446744073709551616) (leftA s a f) (fun n => .int .u64 (n : Nat))) := by
  have hlen := hg.len
  have hlim := hg.lim
  refine T.enterIn (vs := [.pointer (some ⟨b, 0, none⟩)]) Tryz.func61 rfl rfl rfl hs ?_
  repeat (any_goals (first | refine T.seq ?_ | refine T.region ?_ | refine TL.nil ?_ | refine N.next ?_ | refine N.inBlock ?_ | refine N.exit_same ?_ | refine N.exit_then ?_ | refine N.ret_then ?_ | refine N.ret_block ?_ | (apply N.exit_other; rfl) | refine T.ret ?_ | refine T.skip ?_ | refine T.exit ?_ | refine T.block ?_ | (apply T.cond_true; rfl) | (apply T.cond_false; rfl) | (apply T.test; rfl; (with_reducible (first | exact Is.ndec | exact Is.dec | exact Is.not | ((fail_if_success exact Is.litT); (fail_if_success exact Is.litF); exact Is.base))); intro _; rotate_left; intro _; rotate_right) | (apply TL.skip; rfl; rfl; rfl) | (apply TL.skip_none; rfl; rfl) | (apply TL.val; rfl; rfl; (first | exact vpure | exact vread)) | (apply TL.x; rfl; rfl; (first | exact xgrow | exact xput); intro _ _) | (apply TL.guard; rfl; rfl; rfl; (with_reducible (first | exact Is.ndec | exact Is.dec | exact Is.not | ((fail_if_success exact Is.litT); (fail_if_success exact Is.litF); exact Is.base))); intro _; rotate_left; intro _; rotate_right)))
  refine T.loop (G := Bytes × Nat × Bool) (fun g => [(0, .pointer (some ⟨b, 0, none⟩)), (3, .int .u64 ((wordOf g.1 : Nat) : Int)), (4, intV g.1.length)]) (fun _ => H) (fun g => .blk b 110 [s.v, intV g.2.1, .bool g.2.2] :: L) (fun g => g.1.length ≤ 8 ∧ g.2.1 ≤ s.len ∧ ok26 s g.2.1 g.2.2 ∧ (leftA s a f).bind (takeR g.1.length) = (leftA s g.2.1 g.2.2).map fun r => (g.1, r)) (fun g => 8 - g.1.length) ([], a, f) ⟨Nat.zero_le 8, ha, hf, by cases f <;> simp [leftA, takeR]⟩ (by (repeat (first | exact True.intro | refine ⟨rfl, ?_⟩ | refine Sub.int rfl (by omega) ?_))) rfl (List.Sublist.refl _) ?_
  rintro ⟨l, a', f'⟩ ⟨hl, ha', hf', hr⟩
  simp only at hl ha' hf' hr ⊢
  have hw := wordOf_lt l.length l (Nat.le_refl _)
  by_cases hlt : l.length < 8
  · have hw2 : wordOf l * 256 < 18446744073709551616 := by
      have h1 : (256 : Nat) ^ l.length ≤ 256 ^ 7 := Nat.pow_le_pow_right (by decide) (by omega)
      have h2 : (256 : Nat) ^ 7 = 72057594037927936 := by decide
      omega
    repeat (any_goals (first | refine T.seq ?_ | refine T.region ?_ | refine TL.nil ?_ | refine N.next ?_ | refine N.inBlock ?_ | refine N.exit_same ?_ | refine N.exit_then ?_ | refine N.ret_then ?_ | refine N.ret_block ?_ | (apply N.exit_other; rfl) | refine T.ret ?_ | refine T.skip ?_ | refine T.exit ?_ | refine T.block ?_ | (apply T.cond_true; rfl) | (apply T.cond_false; rfl) | (apply T.test; rfl; (with_reducible (first | exact Is.ndec | exact Is.dec | exact Is.not | ((fail_if_success exact Is.litT); (fail_if_success exact Is.litF); exact Is.base))); intro _; rotate_left; intro _; rotate_right) | (apply TL.skip; rfl; rfl; rfl) | (apply TL.skip_none; rfl; rfl) | (apply TL.val; rfl; rfl; (apply V.mulU (m := ((wordOf l * 256 : Nat) : Int)); rfl; rfl; exact u8_mul hw2)) | (apply TL.x; rfl; rfl; (apply X.callS0 (f := 63) Tryz.call63; rfl; rfl; exact fun _ hs => c_next26 hs hg ha' hf'); intro p hp; obtain ⟨c, a2, f2⟩ := p; obtain ⟨ha2, hf2, hc, _⟩ := hp; simp only at ha2 hf2 hc ⊢; have hcl := c.toNat_lt) | (apply TL.val; rfl; rfl; (apply V.convW (r := .u64) (j := (c.toNat : Int)); rfl; rfl; rfl; rfl; exact IntWalk.u64_in _ (by omega))) | (apply TL.val; rfl; rfl; (apply V.addU (m := wordOf (l ++ [c])); rfl; rfl; exact (wordOf_snoc l c).symm; (rw [wordOf_snoc]; omega))) | (apply TL.val; rfl; rfl; (first | exact vpure | exact vread)) | (apply TL.x; rfl; rfl; (first | exact xgrow | exact xput); intro _ _) | (apply TL.guard; rfl; rfl; rfl; (with_reducible (first | exact Is.ndec | exact Is.dec | exact Is.not | ((fail_if_success exact Is.litT); (fail_if_success exact Is.litF); exact Is.base))); intro _; rotate_left; intro _; rotate_right)))
    all_goals (try (exfalso; omega))
    all_goals (refine N.round (l ++ [c], a2, f2) ⟨by simp; omega, ha2, hf2, by simp only [List.length_append, List.length_cons, List.length_nil]; exact take_step hr hc⟩ (by show 8 - (l ++ [c]).length < 8 - l.length; simp; omega) (by simp only [List.length_append, List.length_cons, List.length_nil]; (repeat (first | exact True.intro | refine ⟨rfl, ?_⟩ | refine Sub.int rfl (by omega) ?_))) rfl (List.Sublist.refl _))
  · have hl8 : l.length = 8 := by omega
    rw [hl8] at hr hw
    repeat (any_goals (first | refine T.seq ?_ | refine T.region ?_ | refine TL.nil ?_ | refine N.next ?_ | refine N.inBlock ?_ | refine N.exit_same ?_ | refine N.exit_then ?_ | refine N.ret_then ?_ | refine N.ret_block ?_ | (apply N.exit_other; rfl) | refine T.ret ?_ | refine T.skip ?_ | refine T.exit ?_ | refine T.block ?_ | (apply T.cond_true; rfl) | (apply T.cond_false; rfl) | (apply T.test; rfl; (with_reducible (first | exact Is.ndec | exact Is.dec | exact Is.not | ((fail_if_success exact Is.litT); (fail_if_success exact Is.litF); exact Is.base))); intro _; rotate_left; intro _; rotate_right) | (apply TL.skip; rfl; rfl; rfl) | (apply TL.skip_none; rfl; rfl) | (apply TL.val; rfl; rfl; (first | exact vpure | exact vread)) | (apply TL.x; rfl; rfl; (first | exact xgrow | exact xput); intro _ _) | (apply TL.guard; rfl; rfl; rfl; (with_reducible (first | exact Is.ndec | exact Is.dec | exact Is.not | ((fail_if_success exact Is.litT); (fail_if_success exact Is.litF); exact Is.base))); intro _; rotate_left; intro _; rotate_right)))
    all_goals (try (exfalso; omega))
    all_goals (refine N.ret1 rfl (by (exact rvx)) fun w hst => ⟨(wordOf l, a', f'), ⟨ha', hf', ?_, ?_⟩, rfl, hst⟩)
    · exact take_word hr
    · exact hw
end
end Go.Proofs.YtogcofeencgipaaGreatDoor
