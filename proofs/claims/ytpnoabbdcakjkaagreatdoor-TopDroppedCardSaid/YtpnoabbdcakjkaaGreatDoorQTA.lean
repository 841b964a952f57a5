/- Walks: numbers and texts as bytes; digests. -/
import Derived.Test.YtpnoabbdcakjkaaGreatDoorQEngB
import Derived.Test.YtpnoabbdcakjkaaGreatDoorQWB
import Derived.Test.YtpnoabbdcakjkaaGreatDoorQNA
namespace Go.Proofs.YtpnoabbdcakjkaaGreatDoor
set_option linter.unusedVariables false
set_option linter.unusedSimpArgs false
open Go Go.RowKit
open Enc (enc)
set_option maxRecDepth 20000

theorem byte_wrap (n : Int) (m : Nat) (h : n.toNat = m) (h0 : 0 ≤ n) : IntKind.u8.wrap n = ((byteOf m).toNat : Int) := by
  subst h
  unfold byteOf
  rw [UInt8.toNat_ofNat']
  simp only [IntKind.wrap, IntKind.bits, IntKind.signed, Bool.false_and, Bool.false_eq_true, if_false]
  omega
theorem u64_wrap (n : Int) : IntKind.u64.wrap n = n % 18446744073709551616 := by
  simp only [IntKind.wrap, IntKind.bits, IntKind.signed, Bool.false_and, Bool.false_eq_true, if_false]
  rfl
theorem num8_len (n : Int) : (num8 n).length = 8 := by simp [num8]
theorem num8_get (n : Int) {i : Nat} (hi : i < 8) : (num8 n)[i]? = some (byteOf ((n % 18446744073709551616).toNat / 2 ^ (56 - 8 * i))) := by
  simp [num8, List.getElem?_map, List.getElem?_range hi]
theorem num8_wrap (n : Int) (j : Int) (i : Nat) (hi : i < 8) (hj : j = 56 - 8 * (i : Int)) : IntKind.u8.wrap ((IntKind.u64.wrap n).fdiv (2 ^ j.toNat)) = ((byteOf ((n % 18446744073709551616).toNat / 2 ^ (56 - 8 * i))).toNat : Int) := by
  have e : j.toNat = 56 - 8 * i := by omega
  have h0 : 0 ≤ n % 18446744073709551616 := Int.emod_nonneg _ (by decide)
  rw [u64_wrap, e, Int.fdiv_eq_ediv_of_nonneg _ (Int.le_of_lt (Int.pow_pos (by decide)))]
  obtain ⟨m, hm⟩ : ∃ m : Nat, n % 18446744073709551616 = m := ⟨_, (Int.toNat_of_nonneg h0).symm⟩
  rw [hm]
  have e2 : (m : Int) / 2 ^ (56 - 8 * i) = ((m / 2 ^ (56 - 8 * i) : Nat) : Int) := by simp
  rw [e2]
  exact byte_wrap _ _ rfl (Int.natCast_nonneg _)
theorem num8_take (n : Int) {i : Nat} (hi : i < 8) : (num8 n).take (i + 1) = (num8 n).take i ++ [byteOf ((n % 18446744073709551616).toNat / 2 ^ (56 - 8 * i))] := by
  rw [List.take_add_one, num8_get n hi]; rfl
theorem dig_range {d : Int} (hd : 0 ≤ d ∧ d < 18446744073709551616) (l : Bytes) : 0 ≤ digest d l ∧ digest d l < 18446744073709551616 := by
  unfold digest
  induction l generalizing d with
  | nil => exact hd
  | cons c l ih => exact ih ⟨Int.emod_nonneg _ (by decide), Int.emod_lt_of_pos _ (by decide)⟩
theorem digest_take {d : Int} {l : Bytes} {k : Nat} {c : UInt8} (h : l[k]? = some c) : digest d (l.take (k + 1)) = digStep (digest d (l.take k)) c := by
  rw [List.take_add_one, h, digest_app]; rfl
section
variable {w0 w : World} {H0 H : Hp} {L : List Loc}
abbrev bR (v : Value) (l : Bytes) : Loc := byR 5 v l
theorem c_appendText (l s : Bytes) (v : Value) (hs : St w0 H0 H (bR v l :: L) w) (hb : l.length + s.length < 100000000) : CallsIn (FW none) 0 Tryz.prog 117 #[v, strV s] w (fun e w' => ∃ g : Value, True ∧ e = .returned g ∧ St w0 H0 H (bR g (l ++ textB s) :: L) w') := by
  refine T.enterIn (vs := [v, strV s]) Tryz.func117 rfl rfl rfl hs ?_
  repeat (any_goals (first | refine T.seq ?_ | refine T.region ?_ | refine TL.nil ?_ | refine N.next ?_ | refine N.inBlock ?_ | refine N.exit_same ?_ | refine N.exit_then ?_ | refine N.ret_then ?_ | refine N.ret_block ?_ | (apply N.exit_other; rfl) | refine T.ret ?_ | refine T.skip ?_ | refine T.exit ?_ | refine T.block ?_ | (apply T.cond_true; rfl) | (apply T.cond_false; rfl) | (apply T.test; rfl; (exact isx); intro _; rotate_left; intro _; rotate_right) | (apply TL.skip; rfl; rfl; rfl) | (apply TL.skip_none; rfl; rfl) | (apply TL.val; rfl; rfl; (apply V.convW; (iterate 4 rfl); exact byte_wrap _ s.length rfl (Int.natCast_nonneg _))) | (apply TL.x; rfl; rfl; (apply X.appendBy 1; (iterate 10 rfl); exact List.Mem.head _; omega); intro v2 _) | (apply TL.x; rfl; rfl; (apply X.appendStr 1; (iterate 12 rfl); (simp only [List.length_append, List.length_cons, List.length_nil]; omega)); intro v3 _) | (apply TL.val; rfl; rfl; (first | exact vpure | exact vread)) | (apply TL.x; rfl; rfl; (first | exact xgrow | exact xput); intro _ _) | (apply TL.guard; rfl; rfl; rfl; (exact isx); intro _; rotate_left; intro _; rotate_right)))
  apply N.ret1; rfl; (exact rvx)
  intro w1 hst
  refine ⟨v3, trivial, rfl, ?_⟩
  have := hst.drop
  rw [List.append_assoc] at this
  exact this
theorem c_appendNumber (l : Bytes) (n : Int) (v : Value) (hs : St w0 H0 H (bR v l :: L) w) (hb : l.length < 1000000) : CallsIn (FW none) 0 Tryz.prog 118 #[v, intV n] w (fun e w' => ∃ g : Value, True ∧ e = .returned g ∧ St w0 H0 H (bR g (l ++ num8 n) :: L) w') := by
  refine T.enterIn (vs := [v, intV n]) Tryz.func118 rfl rfl rfl hs ?_
  repeat (any_goals (first | refine T.seq ?_ | refine T.region ?_ | refine TL.nil ?_ | refine N.next ?_ | refine N.inBlock ?_ | refine N.exit_same ?_ | refine N.exit_then ?_ | refine N.ret_then ?_ | refine N.ret_block ?_ | (apply N.exit_other; rfl) | refine T.ret ?_ | refine T.skip ?_ | refine T.exit ?_ | refine T.block ?_ | (apply T.cond_true; rfl) | (apply T.cond_false; rfl) | (apply T.test; rfl; (exact isx); intro _; rotate_left; intro _; rotate_right) | (apply TL.skip; rfl; rfl; rfl) | (apply TL.skip_none; rfl; rfl) | (apply TL.val; rfl; rfl; (first | exact vpure | exact vread)) | (apply TL.x; rfl; rfl; (first | exact xgrow | exact xput); intro _ _) | (apply TL.guard; rfl; rfl; rfl; (exact isx); intro _; rotate_left; intro _; rotate_right)))
  refine T.loop (G := Nat × Value) (fun g => [(0, g.2), (1, intV n), (5, intV (56 - 8 * (g.1 : Int)))]) (fun _ => H) (fun g => bR g.2 (l ++ (num8 n).take g.1) :: L) (fun g => g.1 ≤ 8) (fun g => 8 - g.1) (0, v) (Nat.zero_le _) (by (repeat (first | exact True.intro | refine ⟨rfl, ?_⟩ | refine Sub.int rfl (by omega) ?_))) rfl (by rw [List.take_zero, List.append_nil]; exact List.Sublist.refl _) ?_
  rintro ⟨k, v1⟩ hk
  simp only at hk ⊢
  by_cases hlt : k < 8
  · have hl8 : ((num8 n).take k).length ≤ 8 := by rw [List.length_take]; omega
    repeat (any_goals (first | refine T.seq ?_ | refine T.region ?_ | refine TL.nil ?_ | refine N.next ?_ | refine N.inBlock ?_ | refine N.exit_same ?_ | refine N.exit_then ?_ | refine N.ret_then ?_ | refine N.ret_block ?_ | (apply N.exit_other; rfl) | refine T.ret ?_ | refine T.skip ?_ | refine T.exit ?_ | refine T.block ?_ | (apply T.cond_true; rfl) | (apply T.cond_false; rfl) | (apply T.test; rfl; (exact isx); intro _; rotate_left; intro _; rotate_right) | (apply TL.skip; rfl; rfl; rfl) | (apply TL.skip_none; rfl; rfl) | (apply TL.val; rfl; rfl; (apply V.convW (r := .u64); (iterate 5 rfl))) | (apply TL.val; rfl; rfl; (apply V.convW (r := .u8); (iterate 4 rfl); exact num8_wrap n _ k hlt rfl)) | (apply TL.val; rfl; rfl; (apply V.shrU; rfl; rfl; (constructor <;> omega))) | (apply TL.x; rfl; rfl; (apply X.appendBy 1; (iterate 10 rfl); exact List.Mem.head _; (rw [List.length_append]; omega)); intro v2 _) | (apply TL.val; rfl; rfl; (first | exact vpure | exact vread)) | (apply TL.x; rfl; rfl; (first | exact xgrow | exact xput); intro _ _) | (apply TL.guard; rfl; rfl; rfl; (exact isx); intro _; rotate_left; intro _; rotate_right)))
    all_goals (try (exfalso; omega))
    rename_i v2 _
    refine N.round (k + 1, v2) (by show k + 1 ≤ 8; omega) (by show 8 - (k + 1) < 8 - k; omega) (by (repeat (first | exact True.intro | refine ⟨rfl, ?_⟩ | refine Sub.int rfl (by omega) ?_))) rfl ?_
    rw [num8_take n hlt, ← List.append_assoc]
    (first | exact List.Sublist.refl _ | exact List.nil_sublist _ | exact List.Sublist.cons _ (List.Sublist.refl _) | exact List.Sublist.cons _ (List.Sublist.cons _ (List.Sublist.refl _)))
  · have hk8 : k = 8 := by omega
    subst hk8
    repeat (any_goals (first | refine T.seq ?_ | refine T.region ?_ | refine TL.nil ?_ | refine N.next ?_ | refine N.inBlock ?_ | refine N.exit_same ?_ | refine N.exit_then ?_ | refine N.ret_then ?_ | refine N.ret_block ?_ | (apply N.exit_other; rfl) | refine T.ret ?_ | refine T.skip ?_ | refine T.exit ?_ | refine T.block ?_ | (apply T.cond_true; rfl) | (apply T.cond_false; rfl) | (apply T.test; rfl; (exact isx); intro _; rotate_left; intro _; rotate_right) | (apply TL.skip; rfl; rfl; rfl) | (apply TL.skip_none; rfl; rfl) | (apply TL.val; rfl; rfl; (first | exact vpure | exact vread)) | (apply TL.x; rfl; rfl; (first | exact xgrow | exact xput); intro _ _) | (apply TL.guard; rfl; rfl; rfl; (exact isx); intro _; rotate_left; intro _; rotate_right)))
    all_goals (try (exfalso; omega))
    apply N.ret1; rfl; (exact rvx)
    intro w1 hst
    refine ⟨v1, trivial, rfl, ?_⟩
    rw [List.take_of_length_le (by rw [num8_len]; omega)] at hst
    exact hst
theorem c_add (d : Int) (s : Slc UInt8) (b : Nat) (bt : TypeId) (hs : St w0 H0 H (.blk b bt [.int .u64 d] :: L) w) (hg : s.Good H) (hd : 0 ≤ d ∧ d < 18446744073709551616) : CallsIn (FW none) 0 Tryz.prog 120 #[.pointer (some ⟨b, 0, none⟩), s.v] w (fun e w' => ∃ _g : Unit, True ∧ e = .returned (.tuple #[]) ∧ St w0 H0 H (.blk b bt [.int .u64 (digest d s.els)] :: L) w') := by
  have hlen := hg.len
  have hlim := hg.lim
  refine T.enterIn (vs := [.pointer (some ⟨b, 0, none⟩), s.v]) Tryz.func120 rfl rfl rfl hs ?_
  repeat (any_goals (first | refine T.seq ?_ | refine T.region ?_ | refine TL.nil ?_ | refine N.next ?_ | refine N.inBlock ?_ | refine N.exit_same ?_ | refine N.exit_then ?_ | refine N.ret_then ?_ | refine N.ret_block ?_ | (apply N.exit_other; rfl) | refine T.ret ?_ | refine T.skip ?_ | refine T.exit ?_ | refine T.block ?_ | (apply T.cond_true; rfl) | (apply T.cond_false; rfl) | (apply T.test; rfl; (exact isx); intro _; rotate_left; intro _; rotate_right) | (apply TL.skip; rfl; rfl; rfl) | (apply TL.skip_none; rfl; rfl) | (apply TL.val; rfl; rfl; (first | exact vpure | exact vread)) | (apply TL.x; rfl; rfl; (first | exact xgrow | exact xput); intro _ _) | (apply TL.guard; rfl; rfl; rfl; (exact isx); intro _; rotate_left; intro _; rotate_right)))
  refine T.loop (G := Nat) (fun k => [(0, .pointer (some ⟨b, 0, none⟩)), (6, s.v), (7, intV s.len), (8, intV k)]) (fun _ => H) (fun k => .blk b bt [.int .u64 (digest d (s.els.take k))] :: L) (fun k => k ≤ s.len) (fun k => s.len - k) 0 (Nat.zero_le _) (by (repeat (first | exact True.intro | refine ⟨rfl, ?_⟩ | refine Sub.int rfl (by omega) ?_))) rfl (by (first | exact List.Sublist.refl _ | exact List.nil_sublist _ | exact List.Sublist.cons _ (List.Sublist.refl _) | exact List.Sublist.cons _ (List.Sublist.cons _ (List.Sublist.refl _)))) ?_
  intro k hk
  by_cases hlt : k < s.len
  · have hkk : k < s.els.length := by omega
    have hdr := dig_range hd (s.els.take k)
    obtain ⟨D, hD⟩ : ∃ D, D = digest d (s.els.take k) := ⟨_, rfl⟩
    rw [← hD] at hdr ⊢
    repeat (any_goals (first | refine T.seq ?_ | refine T.region ?_ | refine TL.nil ?_ | refine N.next ?_ | refine N.inBlock ?_ | refine N.exit_same ?_ | refine N.exit_then ?_ | refine N.ret_then ?_ | refine N.ret_block ?_ | (apply N.exit_other; rfl) | refine T.ret ?_ | refine T.skip ?_ | refine T.exit ?_ | refine T.block ?_ | (apply T.cond_true; rfl) | (apply T.cond_false; rfl) | (apply T.test; rfl; (exact isx); intro _; rotate_left; intro _; rotate_right) | (apply TL.skip; rfl; rfl; rfl) | (apply TL.skip_none; rfl; rfl) | (apply TL.val; rfl; rfl; (apply V.nilCheck; rfl)) | (apply TL.val; rfl; rfl; (apply V.convW (r := .u64); (iterate 4 rfl); exact IntWalk.u64_in _ (by have := (s.els[k]'hkk).toNat_lt; omega))) | (apply TL.val; rfl; rfl; (apply V.xorU; rfl; rfl; exact hdr)) | (apply TL.val; rfl; rfl; (apply V.mulU; rfl; rfl; exact u64_wrap _)) | (apply TL.x; rfl; rfl; (apply X.storeTo 0 [.int .u64 (digStep D (s.els[k]'hkk))]; (iterate 10 rfl)); intro _ _) | (apply TL.val; rfl; rfl; (first | exact vpure | exact vread)) | (apply TL.x; rfl; rfl; (first | exact xgrow | exact xput); intro _ _) | (apply TL.guard; rfl; rfl; rfl; (exact isx); intro _; rotate_left; intro _; rotate_right)))
    all_goals (try (exfalso; omega))
    refine N.round (k + 1) (by omega) (by omega) (by (repeat (first | exact True.intro | refine ⟨rfl, ?_⟩ | refine Sub.int rfl (by omega) ?_))) rfl ?_
    rw [digest_take (List.getElem?_eq_getElem hkk), ← hD]
    (first | exact List.Sublist.refl _ | exact List.nil_sublist _ | exact List.Sublist.cons _ (List.Sublist.refl _) | exact List.Sublist.cons _ (List.Sublist.cons _ (List.Sublist.refl _)))
  · have hke : k = s.len := by omega
    subst hke
    repeat (any_goals (first | refine T.seq ?_ | refine T.region ?_ | refine TL.nil ?_ | refine N.next ?_ | refine N.inBlock ?_ | refine N.exit_same ?_ | refine N.exit_then ?_ | refine N.ret_then ?_ | refine N.ret_block ?_ | (apply N.exit_other; rfl) | refine T.ret ?_ | refine T.skip ?_ | refine T.exit ?_ | refine T.block ?_ | (apply T.cond_true; rfl) | (apply T.cond_false; rfl) | (apply T.test; rfl; (exact isx); intro _; rotate_left; intro _; rotate_right) | (apply TL.skip; rfl; rfl; rfl) | (apply TL.skip_none; rfl; rfl) | (apply TL.val; rfl; rfl; (first | exact vpure | exact vread)) | (apply TL.x; rfl; rfl; (first | exact xgrow | exact xput); intro _ _) | (apply TL.guard; rfl; rfl; rfl; (exact isx); intro _; rotate_left; intro _; rotate_right)))
    all_goals (try (exfalso; omega))
    apply N.end0; rfl
    intro w1 hst
    refine ⟨(), trivial, rfl, ?_⟩
    rw [List.take_of_length_le (by omega)] at hst
    exact hst
end
end Go.Proofs.YtpnoabbdcakjkaaGreatDoor
namespace Go.Proofs.YtpnoabbdcakjkaaGreatDoor
set_option linter.unusedVariables false
set_option linter.unusedSimpArgs false
open Go Go.RowKit
open Enc (enc)
set_option maxRecDepth 20000

instance instEncIntT : Enc Int where
  size := 1
  enc i := [intV i]
  good _ i := I64 i
  len _ := rfl
  mono _ h := h
  one _ := rfl
  pos := by decide
instance : Enc KeyC where
  size := 2
  enc k := [intV k.n, intV k.alg]
  good _ k := I64 k.n ∧ I64 k.alg
  len _ := rfl
  mono _ h := h
  one _ := rfl
  pos := by decide
end Go.Proofs.YtpnoabbdcakjkaaGreatDoor
