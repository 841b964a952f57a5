/- Opening: forwarding resolvers, and slices as arguments. -/
import Derived.Test.YtohfliekhbpopaaDoorOpen
import Derived.Test.YtohfliekhbpopaaDoorDataF
namespace Go.Proofs.YtohfliekhbpopaaDoor
set_option linter.unusedVariables false
set_option linter.unusedSimpArgs false
open Go Go.RowKit Go.ChangeShapes Go.WideShapes
section
variable {w : World} {base : Nat} {sp : Nat → Bool} {held : Bool}
theorem decI64 : Dec Tryd.prog w base sp held Int 3 := by
  intro R en fuel cs x h
  obtain ⟨n, e, g⟩ := dec_int Tryd.underlying3 h
  exact ⟨n, e, g⟩
theorem decFwd : Dec Tryd.prog w base sp held Fwd 29 := by
  intro R en fuel cs x h
  obtain ⟨hl, n, hf⟩ := dec_fields (t := 29) rfl rfl h
  obtain ⟨_, h0⟩ := hf 0 _ rfl
  obtain ⟨_, h1⟩ := hf 1 _ rfl
  obtain ⟨_, h2⟩ := hf 2 _ rfl
  obtain ⟨_, h3⟩ := hf 3 _ rfl
  obtain ⟨_, h4⟩ := hf 4 _ rfl
  obtain ⟨_, h5⟩ := hf 5 _ rfl
  obtain ⟨_, h6⟩ := hf 6 _ rfl
  obtain ⟨_, h7⟩ := hf 7 _ rfl
  obtain ⟨_, h8⟩ := hf 8 _ rfl
  obtain ⟨_, h9⟩ := hf 9 _ rfl
  obtain ⟨a0, e0, g0⟩ := decQuestion _ _ _ _ h0
  obtain ⟨a1, e1, g1⟩ := decInt rfl rfl h1
  obtain ⟨a2, e2, g2⟩ := decSlice (α := Int) rfl rfl rfl rfl decI64 h2
  obtain ⟨a3, e3, g3⟩ := decInt rfl rfl h3
  obtain ⟨a4, e4, g4⟩ := decInt rfl rfl h4
  obtain ⟨a5, e5, g5⟩ := decInt rfl rfl h5
  obtain ⟨a6, e6, g6⟩ := decInt rfl rfl h6
  obtain ⟨a7, e7⟩ := dec_bool Tryd.underlying4 h7
  obtain ⟨a8, e8⟩ := dec_bool Tryd.underlying4 h8
  obtain ⟨a9, e9, g9⟩ := decAnswer _ _ _ _ h9
  exact ⟨⟨a0, a1, a2, a3, a4, a5, a6, a7, a8, a9⟩, joinL (o := 0) e0 (joinL e1 (joinL e2 (joinL e3 (joinL e4 (joinL e5 (joinL e6 (joinL e7 (joinL e8 (joinL e9 (List.drop_eq_nil_of_le (Nat.le_of_eq hl))))))))))), g0, g1, g2, g3, g4, g5, g6, g9⟩
end
section
variable {R : Type} {en : TypeId × Value → R} {P : Program} {W : World}
/-- An argument of a slice type, opened. -/
theorem arg_slice {α : Type} [Enc α] {t e : TypeId} {base b0 : Nat} {sp' : Nat → Bool} {held : Bool} {r : Reach} {v : Value} {d : DataW R} {p : List MemPlace} (ht : P.underlying t = some (.slice e)) (hc : P.cellsOf e = Enc.size α) (hd : Dec P W base sp' held α e) (hv : Value.okWide P W r b0 t v) (h : DataW.Trod en P W base sp' held t v d p) :
    ∃ s : Slc α, v = s.v ∧ s.Good (heapOf W) := by
  obtain ⟨a, l, c, rfl⟩ := okWide_slice ht hv
  obtain ⟨fuel, hf⟩ := h
  obtain ⟨s, e, g⟩ := dec_slice ht hc hd hf
  have e' : [Value.slice a l c] = [.slice s.A s.len s.cap] := e
  injection e' with e1
  exact ⟨s, e1, g⟩
theorem arg_str {t : TypeId} {base b0 : Nat} {sp' : Nat → Bool} {held : Bool} {r : Reach} {v : Value} {d : DataW R} {p : List MemPlace} (ht : P.underlying t = some .string) (hv : Value.okWide P W r b0 t v) (h : DataW.Trod en P W base sp' held t v d p) : ∃ l, v = strV l ∧ LenOk l := by
  obtain ⟨s, rfl⟩ := okWide_string ht hv
  obtain ⟨fuel, hf⟩ := h
  obtain ⟨l, e, g⟩ := dec_str ht hf
  have e' : [Value.string s] = [strV l] := e
  injection e' with e1
  exact ⟨l, e1, g⟩
theorem arg_bool {t : TypeId} {base b0 : Nat} {sp' : Nat → Bool} {held : Bool} {r : Reach} {v : Value} {d : DataW R} {p : List MemPlace} (ht : P.underlying t = some .bool) (hv : Value.okWide P W r b0 t v) (h : DataW.Trod en P W base sp' held t v d p) : ∃ b, v = .bool b := okWide_bool ht hv
end
end Go.Proofs.YtohfliekhbpopaaDoor
