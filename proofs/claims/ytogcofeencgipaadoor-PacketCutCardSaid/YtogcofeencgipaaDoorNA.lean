/- Walks: names under names. -/
import Derived.Test.YtogcofeencgipaaDoorWI
import Derived.Test.YtogcofeencgipaaDoorSpec
import Derived.Test.YtogcofeencgipaaDoorSpecC
import Derived.Test.YtogcofeencgipaaDoorDataC
namespace Go.Proofs.YtogcofeencgipaaDoor
set_option linter.unusedVariables false
set_option linter.unusedSimpArgs false
open Go Go.RowKit
set_option maxRecDepth 20000

theorem N.ret_two {m : Nat} {P : Program} {w0 : World} {H0 H : Hp} {L : List Loc} {env : List (Nat × Value)} {ro : Option Nat} {fn : Func} {r s : ResultVar} {v u : Value} {x : Value} (hr : fn.results = #[r, s]) (h1 : RV P ⟨m, [], ro⟩ w0 H0 env H L r v) (h2 : RV P ⟨m, [], ro⟩ w0 H0 env H L s u) (he : .tuple #[v, u] = x) : N ⟨m, [], ro⟩ w0 H0 (bodyPost P fn (Ret w0 x)) .ret env H L :=
  N.ret2 hr h1 h2 fun _ hs => ⟨by rw [he], hs.below⟩
/-- What 'Under' answers. -/
def underC (s z : Bytes) : Bool × Int := if nameOK s = true ∧ nameOK z = true then (underB s z, 0) else (false, 11)
theorem underC_val {l p : Bytes} {b : Bool} {e : Int} (h : underC l p = (b, e)) : Value.tuple #[.bool b, intV e] = .tuple #[.bool (underC l p).1, intV (underC l p).2] := by rw [h]
end Go.Proofs.YtogcofeencgipaaDoor
namespace Go.Proofs.YtogcofeencgipaaDoor
set_option linter.unusedVariables false
set_option linter.unusedSimpArgs false
open Go Go.RowKit
set_option maxRecDepth 20000

theorem suffix_at {α : Type} {d : α} {a b : List α} (h : b.length ≤ a.length) : (b <:+ a) ↔ ∀ j, j < b.length → a.getD (a.length - b.length + j) d = b.getD j d := by
  rw [List.suffix_iff_eq_drop]
  constructor
  · intro e j hj
    have := congrArg (fun x : List α => x[j]?) e
    simp only [List.getElem?_drop] at this
    rw [List.getD_eq_getElem?_getD, List.getD_eq_getElem?_getD, this]
  · intro e
    refine List.ext_getElem (by rw [List.length_drop]; omega) fun j h1 h2 => ?_
    have := e j h1
    rw [List.getElem_drop]
    rw [List.getD_eq_getElem?_getD, List.getD_eq_getElem?_getD, List.getElem?_eq_getElem h1, List.getElem?_eq_getElem (by omega)] at this
    exact this.symm
def wildN (l : Bytes) : Bool := decide ((parts l)[0]? = some [42])
end Go.Proofs.YtogcofeencgipaaDoor
namespace Go.Proofs.YtogcofeencgipaaDoor
set_option linter.unusedVariables false
set_option linter.unusedSimpArgs false
open Go Go.RowKit
set_option maxRecDepth 20000

theorem wildN_star (l : Bytes) : wildN l = starN l := by unfold wildN starN; rw [List.head?_eq_getElem?]
end Go.Proofs.YtogcofeencgipaaDoor
namespace Go.Proofs.YtogcofeencgipaaDoor
set_option linter.unusedVariables false
set_option linter.unusedSimpArgs false
open Go Go.RowKit
set_option maxRecDepth 20000

def keyV (k : Bytes × Int × Bytes) : Value := .agg #[strV k.1, intV k.2.1, strV k.2.2]
/-- What the rounds of 'inForm' know. -/
def formTo (l : List Sig) (apex : Bytes) (k : Nat) : Prop := ∀ j (h : j < l.length), j < k → sigForm apex (l.headD l[j]) l[j] = true ∧ (∀ (h0 : 0 < j), (l[j - 1]'(by omega)).key < l[j].key)
end Go.Proofs.YtogcofeencgipaaDoor
