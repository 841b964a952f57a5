/- Opening: caches, and texts and truth values as arguments. -/
import Derived.Test.YtogcofeencgipaaGreatDoorZOpen
import Derived.Test.YtogcofeencgipaaGreatDoorZNF
namespace Go.Proofs.YtogcofeencgipaaGreatDoor
set_option linter.unusedVariables false
set_option linter.unusedSimpArgs false
open Go Go.RowKit Go.ChangeShapes Go.WideShapes
section
variable {w : World} {base : Nat} {sp : Nat → Bool} {held : Bool}
theorem decEntry : Dec Tryz.prog w base sp held Entry 67 := by
  intro R en fuel cs x h
  obtain ⟨hl, n, hf⟩ := dec_fields (t := 67) rfl rfl h
  obtain ⟨_, h0⟩ := hf 0 _ rfl
  obtain ⟨_, h1⟩ := hf 1 _ rfl
  obtain ⟨_, h2⟩ := hf 2 _ rfl
  obtain ⟨a0, e0, g0⟩ := decSigned _ _ _ _ h0
  obtain ⟨a1, e1, g1⟩ := decStr rfl rfl h1
  obtain ⟨a2, e2, g2⟩ := decInt rfl rfl h2
  exact ⟨⟨a0, a1, a2⟩, joinL (o := 0) e0 (joinL e1 (joinL e2 (List.drop_eq_nil_of_le (Nat.le_of_eq hl)))), g0, g1, g2⟩
theorem decCache : Dec Tryz.prog w base sp held Cache 46 := by
  intro R en fuel cs x h
  obtain ⟨hl, n, hf⟩ := dec_fields (t := 46) rfl rfl h
  obtain ⟨_, h0⟩ := hf 0 _ rfl
  obtain ⟨a0, e0, g0⟩ := decSlice (α := Entry) rfl rfl rfl rfl decEntry h0
  exact ⟨⟨a0⟩, joinL (o := 0) e0 (List.drop_eq_nil_of_le (Nat.le_of_eq hl)), g0⟩
end
section
variable {R : Type} {en : TypeId × Value → R} {P : Program} {W : World}
theorem arg_strC {t : TypeId} {base b0 : Nat} {sp' : Nat → Bool} {held : Bool} {r : Reach} {v : Value} {d : DataW R} {p : List MemPlace} (ht : P.underlying t = some .string) (hv : Value.okWide P W r b0 t v) (h : DataW.Trod en P W base sp' held t v d p) : ∃ l, v = strV l ∧ LenOk l := by
  obtain ⟨s, rfl⟩ := okWide_string ht hv
  obtain ⟨fuel, hf⟩ := h
  obtain ⟨l, e, g⟩ := dec_str ht hf
  have e' : [Value.string s] = [strV l] := e
  injection e' with e1
  exact ⟨l, e1, g⟩
theorem arg_boolC {t : TypeId} {base b0 : Nat} {sp' : Nat → Bool} {held : Bool} {r : Reach} {v : Value} {d : DataW R} {p : List MemPlace} (ht : P.underlying t = some .bool) (hv : Value.okWide P W r b0 t v) (h : DataW.Trod en P W base sp' held t v d p) : ∃ b, v = .bool b := okWide_bool ht hv
end
end Go.Proofs.YtogcofeencgipaaGreatDoor
