/- Plain laws: damaged and cut bytes of messages. -/
import Derived.Test.YtogcofeencgipaaDoorSpecP
namespace Go.Proofs.YtogcofeencgipaaDoor
set_option linter.unusedVariables false
set_option linter.unusedSimpArgs false
open Go
set_option maxRecDepth 20000
theorem mul_inv (a : Nat) (h : a < 18446744073709551616) : (a * 1099511628211 % 18446744073709551616) * 14886173955864302971 % 18446744073709551616 = a := by
  rw [Nat.mod_mul_mod, Nat.mul_assoc, Nat.mul_mod]
  rw [show 1099511628211 * 14886173955864302971 % 18446744073709551616 = 1 by decide, Nat.mul_one, Nat.mod_mod, Nat.mod_eq_of_lt h]
theorem mul_inj {a b : Nat} (ha : a < 18446744073709551616) (hb : b < 18446744073709551616) (h : a * 1099511628211 % 18446744073709551616 = b * 1099511628211 % 18446744073709551616) : a = b := by
  rw [← mul_inv a ha, h, mul_inv b hb]
abbrev InD (d : Int) : Prop := 0 ≤ d ∧ d < 18446744073709551616
theorem dig_lt {d : Int} (h : InD d) (c : UInt8) : Nat.xor d.toNat c.toNat < 18446744073709551616 := Nat.xor_lt_two_pow (n := 64) (by omega) (Nat.lt_trans c.toNat_lt (by decide))
theorem step_eq {x y : Nat} (hx : x < 18446744073709551616) (hy : y < 18446744073709551616) (h : (x : Int) * 1099511628211 % 18446744073709551616 = (y : Int) * 1099511628211 % 18446744073709551616) : x = y := by
  refine mul_inj hx hy (Int.ofNat.inj ?_)
  show ((x * 1099511628211 % 18446744073709551616 : Nat) : Int) = ((y * 1099511628211 % 18446744073709551616 : Nat) : Int)
  rw [Int.natCast_emod, Int.natCast_emod, Int.natCast_mul, Int.natCast_mul]
  exact h
theorem step_inj {d e : Int} {c c' : UInt8} (hd : InD d) (he : InD e) (h : digStep d c = digStep e c') : Nat.xor d.toNat c.toNat = Nat.xor e.toNat c'.toNat := by
  unfold digStep at h
  exact step_eq (dig_lt hd c) (dig_lt he c') h
theorem xor_can {a b c : Nat} (h : Nat.xor a b = Nat.xor a c) : b = c := by
  have h1 : a ^^^ b = a ^^^ c := h
  have h2 := congrArg (fun x => a ^^^ x) h1
  simpa [← Nat.xor_assoc] using h2
theorem xor_can' {a b c : Nat} (h : Nat.xor b a = Nat.xor c a) : b = c := by
  have h1 : b ^^^ a = c ^^^ a := h
  rw [Nat.xor_comm b a, Nat.xor_comm c a] at h1
  exact xor_can h1
theorem digest_inj : ∀ {l : Bytes} {d e : Int}, InD d → InD e → digest d l = digest e l → d = e
  | [], _, _, _, _, h => h
  | c :: l, d, e, hd, he, h => by
    have h1 : digStep d c = digStep e c := digest_inj (l := l) (dig_range hd [c]) (dig_range he [c]) h
    have h2 := xor_can' (step_inj hd he h1)
    omega
/-- Another byte at one place: another digest. -/
theorem digest_set {l : Bytes} {d : Int} {k : Nat} {c : UInt8} (hd : InD d) (hk : k < l.length) (hc : c ≠ l[k]) : digest d (l.set k c) ≠ digest d l := by
  intro h
  rw [List.set_eq_take_append_cons_drop, if_pos hk, digest_app] at h
  conv at h => rhs; rw [← List.take_append_drop k l, List.drop_eq_getElem_cons hk, digest_app]
  have h0 := dig_range hd (l.take k)
  have h1 : digStep (digest d (l.take k)) c = digStep (digest d (l.take k)) l[k] := digest_inj (l := l.drop (k + 1)) (dig_range h0 [c]) (dig_range h0 [l[k]]) h
  exact hc (UInt8.toNat_inj.1 (xor_can (step_inj h0 h0 h1)))
theorem num8_inj {a b : Int} (ha : InD a) (hb : InD b) (h : num8 a = num8 b) : a = b := by
  have h1 := congrArg wordOf h
  rw [num8_words, num8_words, wordOf_words _ (by omega), wordOf_words _ (by omega)] at h1
  omega
theorem first_in : InD firstDigest := by decide
/-- Damaged bytes have the wrong digest. -/
theorem read_damage {f : Bytes} {k : Nat} {c : UInt8} (hl : (sealB f).length ≤ 4000) (hk : k < (sealB f).length) (hc : c ≠ (sealB f)[k]) : readC ((sealB f).set k c) = (msgNil, 40) := by
  have hsl := seal_len f
  unfold readC
  rw [if_neg (by rw [List.length_set]; omega), if_pos]
  right
  rw [List.length_set]
  intro h
  by_cases hkf : k < f.length
  · have h1 : (sealB f).set k c = f.set k c ++ num8 (digest firstDigest f) := by
      unfold sealB
      rw [List.set_append, if_pos hkf]
    have h2 : ((sealB f).set k c).take ((sealB f).length - 8) = f.set k c := by
      rw [h1]
      exact List.take_left' (by rw [List.length_set]; omega)
    rw [h2, h1] at h
    have h3 := List.append_cancel_left (show f.set k c ++ num8 (digest firstDigest (f.set k c)) = f.set k c ++ num8 (digest firstDigest f) from h)
    have h4 := num8_inj (dig_range first_in _) (dig_range first_in _) h3
    refine digest_set first_in hkf ?_ h4
    intro e
    apply hc
    have e2 : (sealB f)[k]? = f[k]? := by unfold sealB; exact List.getElem?_append_left hkf
    rw [List.getElem?_eq_getElem hk, List.getElem?_eq_getElem hkf] at e2
    rw [e, Option.some.inj e2]
  · have h2 : ((sealB f).set k c).take ((sealB f).length - 8) = f := by
      rw [List.take_set, seal_front]
      exact List.set_eq_of_length_le (by omega)
    rw [h2] at h
    have h3 : ((sealB f).set k c)[k]? = (sealB f)[k]? := by rw [← h]
    rw [List.getElem?_set_self hk, List.getElem?_eq_getElem hk] at h3
    exact hc (Option.some.inj h3)
theorem frontC_rd {b : Bytes} {m : MsgC} (h : frontC b = (m, 0)) : msgCod.rd b = some (m, []) := by
  unfold frontC at h
  split at h
  · rename_i m' hr
    split at h
    · injection h with h _
      subst h
      exact hr
    · injection h with _ h; cases h
  · injection h with _ h; cases h
theorem rd_msgB {m : MsgC} (h : msgOK m = true) (hs : SumsOK m) (r : Bytes) : msgCod.rd (msgB m ++ r) = some (m, r) := by
  have := msgCod.back m r (msgOK_cod h hs)
  rwa [msg_enc] at this
/-- A beginning of a message's bytes says nothing. -/
theorem front_cut {m : MsgC} (h : msgOK m = true) (hs : SumsOK m) {k : Nat} (hk : k < (msgB m).length) : (frontC ((msgB m).take k)).2 = 10 := by
  obtain ⟨⟨n, e⟩, hr⟩ : ∃ x, frontC ((msgB m).take k) = x := ⟨_, rfl⟩
  rw [hr]
  rcases frontC_err hr with rfl | h1
  · exfalso
    have h2 := msgCod.more _ _ _ ((msgB m).drop k) (frontC_rd hr)
    rw [List.take_append_drop] at h2
    have h3 := rd_msgB h hs []
    rw [List.append_nil] at h3
    rw [h3] at h2
    simp only [Option.some.injEq, Prod.mk.injEq, List.nil_append] at h2
    have := congrArg List.length h2.2
    rw [List.length_drop, List.length_nil] at this
    omega
  · exact h1.1
theorem front_more {m : MsgC} (h : msgOK m = true) (hs : SumsOK m) (r : Bytes) : (frontC (msgB m ++ r)).2 = 0 ↔ r = [] := by
  unfold frontC
  rw [rd_msgB h hs r]
  cases r with
  | nil => simp [h]
  | cons c r => simp
theorem read_cut {m : MsgC} (h : msgOK m = true) (hs : SumsOK m) (hl : (sealB (msgB m)).length ≤ 4000) {k : Nat} (hk : k < (msgB m).length) : (readC (sealB ((msgB m).take k))).2 = 10 := by
  rw [read_seal, front_cut h hs hk]
  rw [seal_len] at hl ⊢
  rw [List.length_take]
  omega
theorem read_more {m : MsgC} (h : msgOK m = true) (hs : SumsOK m) (hl : (sealB (msgB m)).length ≤ 4000) (r : Bytes) : (readC (sealB (msgB m ++ r))).2 = 0 ↔ r = [] := by
  by_cases h4 : (sealB (msgB m ++ r)).length ≤ 4000
  · rw [read_seal h4]; exact front_more h hs r
  · unfold readC
    rw [if_pos (by omega)]
    constructor
    · intro h; cases h
    · rintro rfl
      rw [List.append_nil] at h4
      exact absurd hl h4
theorem msgB_pos (m : MsgC) : 8 < (msgB m).length := by
  unfold msgB
  simp only [List.length_append, num8_len]
  omega
end Go.Proofs.YtogcofeencgipaaDoor
