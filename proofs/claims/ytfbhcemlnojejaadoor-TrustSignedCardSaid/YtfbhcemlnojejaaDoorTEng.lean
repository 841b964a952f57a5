/- The engine: arithmetic that may wrap; bits. -/
import Derived.Test.YtfbhcemlnojejaaDoorEngB
namespace Go.Proofs.YtfbhcemlnojejaaDoor
set_option linter.unusedVariables false
set_option linter.unusedSimpArgs false
open Go Go.RowKit
section
variable {P : Program} {n : FK} {S : World → Prop} {env : List (Nat × Value)}
theorem V.negE {t : TypeId} {x : Operand} {i M : Int} (hM : IntKind.i64.wrap (-i) = M) (hx : ev env x = some (intV i)) : V P n S env (.unOp .neg t x) (intV M) :=
  ⟨fun o a w ho hf _ => by subst hM; unfold execOp; rw [ho]; simp [hf.ev hx, Op.unary, Op.intArith]⟩
theorem V.subWE {t u : TypeId} {x y : Operand} {i j M : Int} (hM : IntKind.i64.wrap (i - j) = M) (hx : ev env x = some (intV i)) (hy : ev env y = some (intV j)) : V P n S env (.binOp .sub t x y u) (intV M) :=
  ⟨fun o a w ho hf _ => by subst hM; unfold execOp; rw [ho]; simp [hf.ev hx, hf.ev hy, binOp, eqGuard, Op.intArith]⟩
theorem V.addWE {t u : TypeId} {x y : Operand} {i j M : Int} (hM : IntKind.i64.wrap (i + j) = M) (hx : ev env x = some (intV i)) (hy : ev env y = some (intV j)) : V P n S env (.binOp .add t x y u) (intV M) :=
  ⟨fun o a w ho hf _ => by subst hM; unfold execOp; rw [ho]; simp [hf.ev hx, hf.ev hy, binOp, eqGuard, Op.intArith]⟩
theorem V.xorN {t u : TypeId} {x y : Operand} {i j : Nat} (hx : ev env x = some (.int .u64 i)) (hy : ev env y = some (.int .u64 j)) (hi : i < 18446744073709551616) (hj : j < 18446744073709551616) : V P n S env (.binOp .xor t x y u) (.int .u64 ((Nat.xor i j : Nat) : Int)) :=
  ⟨fun o A w ho hf _ => by
    have e1 : ((BitVec.ofInt 64 (i : Int)).toNat) = i := by rw [BitVec.toNat_ofInt]; omega
    have e2 : ((BitVec.ofInt 64 (j : Int)).toNat) = j := by rw [BitVec.toNat_ofInt]; omega
    have hlt : Nat.xor i j < 2 ^ 64 := Nat.xor_lt_two_pow hi hj
    have e3 : (BitVec.ofInt 64 (i : Int) ^^^ BitVec.ofInt 64 (j : Int)).toNat = Nat.xor i j := by
      rw [BitVec.toNat_xor, e1, e2]; rfl
    have e4 : IntKind.u64.wrap ((Nat.xor i j : Nat) : Int) = ((Nat.xor i j : Nat) : Int) := IntWalk.u64_in _ (by omega)
    unfold execOp; rw [ho]
    simp only [hf.ev hx, hf.ev hy, binOp, eqGuard, Op.intBits]
    simp [IntKind.bits, -BitVec.toNat_xor]
    show IntKind.u64.wrap ((BitVec.toNat (w := 64) (BitVec.ofInt 64 (i : Int) ^^^ BitVec.ofInt 64 (j : Int)) : Nat) : Int) = _
    rw [e3]
    exact e4⟩
theorem V.shlN {t u : TypeId} {x y : Operand} {r : IntKind} {i j : Nat} (hx : ev env x = some (.int .u64 i)) (hy : ev env y = some (.int r j)) (hj : j < 64) (hi : i * 2 ^ j < 18446744073709551616) : V P n S env (.binOp .shl t x y u) (.int .u64 ((i * 2 ^ j : Nat) : Int)) :=
  ⟨fun o A w ho hf _ => by
    have h64 : Min.min ((j : Int)).toNat IntKind.u64.bits = j := Nat.min_eq_left (by show j ≤ 64; omega)
    unfold execOp; rw [ho]
    simp [hf.ev hx, hf.ev hy, binOp, eqGuard, Op.shift, h64]
    have e : ((i * 2 ^ j : Nat) : Int) = (i : Int) * 2 ^ j := by rw [Int.natCast_mul, Int.natCast_pow]; rfl
    rw [← e]
    exact IntWalk.u64_in _ (by constructor <;> omega)⟩
theorem V.remG {q : IntKind} {t u : TypeId} {x y : Operand} {i j m : Int} (hx : ev env x = some (.int q i)) (hy : ev env y = some (.int q j)) (hm : i.tmod j = m) (hw : q.wrap m = m) (hj : 0 < j) : V P n S env (.binOp .rem t x y u) (.int q m) :=
  ⟨fun o a w ho hf _ => by
    unfold execOp; rw [ho]
    simp only [hf.ev hx, hf.ev hy, binOp, eqGuard, Op.intDiv]
    simp [show j ≠ 0 by omega, hm, hw]⟩
end
end Go.Proofs.YtfbhcemlnojejaaDoor
