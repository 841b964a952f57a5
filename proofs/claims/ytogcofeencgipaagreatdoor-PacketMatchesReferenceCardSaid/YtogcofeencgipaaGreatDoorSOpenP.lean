/- Opening: bytes as arguments; a world for the witnesses with two variables laid. -/
import Derived.Test.YtogcofeencgipaaGreatDoorSOpen
import Derived.Test.YtogcofeencgipaaGreatDoorSEngB
import Derived.Test.YtogcofeencgipaaGreatDoorSWit
namespace Go.Proofs.YtogcofeencgipaaGreatDoor
set_option linter.unusedVariables false
set_option linter.unusedSimpArgs false
open Go Go.RowKit Go.ChangeShapes Go.WideShapes
set_option maxRecDepth 100000
section
variable {w : World} {base : Nat} {sp : Nat → Bool} {held : Bool}
theorem decByte : Dec Tryz.prog w base sp held UInt8 5 := by
  intro R en fuel cs x h
  obtain ⟨n, rfl, _, hw⟩ := DataW.trod_int Tryz.underlying5 h
  simp only [Lit.wf, Bool.and_eq_true, decide_eq_true_eq] at hw
  have h1 : (0 : Int) ≤ n := hw.1
  have h2 : n ≤ 255 := hw.2
  refine ⟨UInt8.ofNat n.toNat, ?_, trivial⟩
  show [Value.int .u8 n] = [Value.int .u8 (((UInt8.ofNat n.toNat).toNat : Nat) : Int)]
  rw [UInt8.toNat_ofNat', show (((n.toNat % 2 ^ 8 : Nat) : Int)) = n by omega]
end
section
variable {R : Type} {en : TypeId × Value → R} {P : Program} {W : World}
/-- An argument of a slice type, opened. -/
theorem arg_slice {α : Type} [Enc α] {t e : TypeId} {base b0 : Nat} {sp' : Nat → Bool} {held : Bool} {r : Reach} {v : Value} {d : DataW R} {p : List MemPlace} (ht : P.underlying t = some (.slice e)) (hc : P.cellsOf e = Enc.size α) (hd : Dec P W base sp' held α e) (hv : Value.okWide P W r b0 t v) (h : DataW.Trod en P W base sp' held t v d p) :
    ∃ s : Slc α, v = s.v ∧ s.Good (heapOf W) := by
  obtain ⟨a, l, c, rfl⟩ := okWide_slice ht hv
  obtain ⟨fuel, hf⟩ := h
  obtain ⟨s, e, g⟩ := dec_slice ht hc hd hf
  have e' : [Value.slice a l c] = [.slice s.A s.len s.cap] := e
  injection e' with e1
  exact ⟨s, e1, g⟩
end
def errObj (n : Nat) : Obj → Obj
  | .cells _ t frozen => .cells #[.iface 251 (.pointer (some ⟨n, 0, none⟩))] t frozen
  | o => o
noncomputable def laidWorld2 (os : Os) : World :=
  { laidWorld os with heap := Array.push ((laidWorld os).heap.modify 1 (errObj (laidWorld os).heap.size)) (.cells #[strV [98, 121, 116, 101, 115, 46, 66, 117, 102, 102, 101, 114, 58, 32, 116, 111, 111, 32, 108, 97, 114, 103, 101]] 267) }
theorem laid_met2 (os : Os) (args : Array Value) : laidMet Tryz.prog [("bytes.ErrTooLarge", Rows.laid_bytes_ErrTooLarge), ("nameplan/record.rules", Rows.laid_nameplan_record_rules)] ((laidWorld2 os).forCall (fun _ _ => 0) ⟨#[], args, []⟩).memory :=
  laidMet_of_run' 8 (by kernel_rfl) (by kernel_rfl)
end Go.Proofs.YtogcofeencgipaaGreatDoor
