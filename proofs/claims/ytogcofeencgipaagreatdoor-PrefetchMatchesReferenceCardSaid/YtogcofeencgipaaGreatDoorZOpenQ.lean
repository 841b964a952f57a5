/- Opening: uses as arguments. -/
import Derived.Test.YtogcofeencgipaaGreatDoorZOpenC
import Derived.Test.YtogcofeencgipaaGreatDoorZQH
namespace Go.Proofs.YtogcofeencgipaaGreatDoor
set_option linter.unusedVariables false
set_option linter.unusedSimpArgs false
open Go Go.RowKit Go.ChangeShapes Go.WideShapes
section
variable {w : World} {base : Nat} {sp : Nat → Bool} {held : Bool}
theorem decUse : Dec Tryz.prog w base sp held Use 69 := by
  intro R en fuel cs x h
  obtain ⟨hl, n, hf⟩ := dec_fields (t := 69) rfl rfl h
  obtain ⟨_, h0⟩ := hf 0 _ rfl
  obtain ⟨_, h1⟩ := hf 1 _ rfl
  obtain ⟨a0, e0, g0⟩ := decQuestion _ _ _ _ h0
  obtain ⟨a1, e1, g1⟩ := decInt rfl rfl h1
  exact ⟨⟨a0, a1⟩, joinL (o := 0) e0 (joinL e1 (List.drop_eq_nil_of_le (Nat.le_of_eq hl))), g0, g1⟩
end
section
variable {R : Type} {en : TypeId × Value → R} {P : Program} {W : World}
/-- An argument of a slice type, opened. -/
theorem arg_slice {α : Type} [Enc α] {t e : TypeId} {base b0 : Nat} {sp' : Nat → Bool} {held : Bool} {r : Reach} {v : Value} {d : DataW R} {p : List MemPlace} (ht : P.underlying t = some (.slice e)) (hc : P.cellsOf e = Enc.size α) (hd : Dec P W base sp' held α e) (hv : Value.okWide P W r b0 t v) (h : DataW.Trod en P W base sp' held t v d p) :
    ∃ s : Slc α, v = s.v ∧ s.Good (heapOf W) := by
  obtain ⟨a, l, c, rfl⟩ := okWide_slice ht hv
  obtain ⟨fuel, hf⟩ := h
  obtain ⟨s, e, g⟩ := dec_slice ht hc hd hf
  have e' : [Value.slice a l c] = [.slice s.A s.len s.cap] := e
  injection e' with e1
  exact ⟨s, e1, g⟩
end
end Go.Proofs.YtogcofeencgipaaGreatDoor
