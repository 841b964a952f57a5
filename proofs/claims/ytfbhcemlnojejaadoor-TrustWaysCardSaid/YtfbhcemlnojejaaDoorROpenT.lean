/- Opening: keys, and slices and texts as arguments. -/
import Derived.Test.YtfbhcemlnojejaaDoorROpen
import Derived.Test.YtfbhcemlnojejaaDoorRTP
namespace Go.Proofs.YtfbhcemlnojejaaDoor
set_option linter.unusedVariables false
set_option linter.unusedSimpArgs false
open Go Go.RowKit Go.ChangeShapes Go.WideShapes
section
variable {w : World} {base : Nat} {sp : Nat → Bool} {held : Bool}
theorem decName : Dec Tryd.prog w base sp held (List UInt8) 9 := by
  intro R en fuel cs x h
  obtain ⟨l, e, g⟩ := dec_str Tryd.underlying9 h
  exact ⟨l, e, g⟩
end
section
variable {R : Type} {en : TypeId × Value → R} {P : Program} {W : World}
/-- An argument of a slice type, opened. -/
theorem arg_slice {α : Type} [Enc α] {t e : TypeId} {base b0 : Nat} {sp' : Nat → Bool} {held : Bool} {r : Reach} {v : Value} {d : DataW R} {p : List MemPlace} (ht : P.underlying t = some (.slice e)) (hc : P.cellsOf e = Enc.size α) (hd : Dec P W base sp' held α e) (hv : Value.okWide P W r b0 t v) (h : DataW.Trod en P W base sp' held t v d p) :
    ∃ s : Slc α, v = s.v ∧ s.Good (heapOf W) := by
  obtain ⟨a, l, c, rfl⟩ := okWide_slice ht hv
  obtain ⟨fuel, hf⟩ := h
  obtain ⟨s, e, g⟩ := dec_slice ht hc hd hf
  have e' : [Value.slice a l c] = [.slice s.A s.len s.cap] := e
  injection e' with e1
  exact ⟨s, e1, g⟩
end
end Go.Proofs.YtfbhcemlnojejaaDoor
