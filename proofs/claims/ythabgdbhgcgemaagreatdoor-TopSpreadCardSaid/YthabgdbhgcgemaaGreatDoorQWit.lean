import Derived.Test.YthabgdbhgcgemaaGreatDoorQBOD
import Derived.Test.YthabgdbhgcgemaaGreatDoorQOpen
import Derived.Deep.DeepHandedRow
import Derived.Lib.LaidTab
namespace Go.Proofs.YthabgdbhgcgemaaGreatDoor
set_option linter.unusedVariables false
set_option linter.unusedSimpArgs false
open Go Go.RowKit Go.ChangeShapes Go.WideShapes
theorem c_TopSpreadC (l : Slc VersionV) (primary : Int) (polls : Slc PollV) (fin host t : Int) (H : Hp) (w : World) (hs : Sat H w) (hR : Rules H) (hg : l.Good H) (hpI : I64 primary) (hgp : polls.Good H) (hh : 0 ≤ host ∧ host ≤ 255) (ht : I64 t) : Calls Tryz.prog 3 #[l.v, intV primary, polls.v, intV fin, .int .u8 host, intV t] w (Ret w (.bool true)) := by
  obtain ⟨hn, rfl⟩ := Int.eq_ofNat_of_zero_le hh.1
  exact c_TopSpread l primary polls fin hn t hpI ht (by omega) hs hR hg hgp
section
variable {w : World} {base : Nat} {sp : Nat → Bool} {held : Bool}
theorem decZone : Dec Tryz.prog w base sp held ZoneV 32 := by
  intro R en fuel cs x h
  obtain ⟨hl, n, hf⟩ := dec_fields (t := 32) rfl rfl h
  obtain ⟨_, h0⟩ := hf 0 _ rfl
  obtain ⟨_, h1⟩ := hf 1 _ rfl
  obtain ⟨a0, e0, g0⟩ := decStr rfl rfl h0
  obtain ⟨a1, e1, g1⟩ := decSlice (α := Signed) rfl rfl rfl rfl decSigned h1
  exact ⟨⟨a0, a1⟩, joinL (o := 0) e0 (joinL e1 (List.drop_eq_nil_of_le (Nat.le_of_eq hl))), g0, g1⟩
theorem decVersion : Dec Tryz.prog w base sp held VersionV 41 := by
  intro R en fuel cs x h
  obtain ⟨hl, n, hf⟩ := dec_fields (t := 41) rfl rfl h
  obtain ⟨_, h0⟩ := hf 0 _ rfl
  obtain ⟨_, h1⟩ := hf 1 _ rfl
  obtain ⟨a0, e0, g0⟩ := decInt rfl rfl h0
  obtain ⟨a1, e1, g1⟩ := decZone _ _ _ _ h1
  exact ⟨⟨a0, a1⟩, joinL (o := 0) e0 (joinL e1 (List.drop_eq_nil_of_le (Nat.le_of_eq hl))), g0, g1⟩
theorem decPoll : Dec Tryz.prog w base sp held PollV 37 := by
  intro R en fuel cs x h
  obtain ⟨hl, n, hf⟩ := dec_fields (t := 37) rfl rfl h
  obtain ⟨_, h0⟩ := hf 0 _ rfl
  obtain ⟨_, h1⟩ := hf 1 _ rfl
  obtain ⟨_, h2⟩ := hf 2 _ rfl
  obtain ⟨a0, e0, g0⟩ := decInt rfl rfl h0
  obtain ⟨a1, e1, g1⟩ := decInt rfl rfl h1
  obtain ⟨a2, e2⟩ := dec_bool Tryz.underlying4 h2
  exact ⟨⟨a0, a1, a2⟩, joinL (o := 0) e0 (joinL e1 (joinL e2 (List.drop_eq_nil_of_le (Nat.le_of_eq hl)))), g0, g1⟩
end
section
variable {R : Type} {en : TypeId × Value → R} {P : Program} {W : World}
theorem arg_slice {α : Type} [Enc α] {t e : TypeId} {base b0 : Nat} {sp' : Nat → Bool} {held : Bool} {r : Reach} {v : Value} {d : DataW R} {p : List MemPlace} (ht : P.underlying t = some (.slice e)) (hc : P.cellsOf e = Enc.size α) (hd : Dec P W base sp' held α e) (hv : Value.okWide P W r b0 t v) (h : DataW.Trod en P W base sp' held t v d p) :
    ∃ s : Slc α, v = s.v ∧ s.Good (heapOf W) := by
  obtain ⟨a, l, c, rfl⟩ := okWide_slice ht hv
  obtain ⟨fuel, hf⟩ := h
  obtain ⟨s, e, g⟩ := dec_slice ht hc hd hf
  have e' : [Value.slice a l c] = [.slice s.A s.len s.cap] := e
  injection e' with e1
  exact ⟨s, e1, g⟩
end
end Go.Proofs.YthabgdbhgcgemaaGreatDoor
namespace Go.Proofs.YthabgdbhgcgemaaGreatDoor
set_option linter.unusedVariables false
set_option linter.unusedSimpArgs false
open Go Go.RowKit Go.ChangeShapes Go.WideShapes
set_option maxRecDepth 100000
theorem own : ownKnob Tryz.prog.godebug = none := by kernel_rfl
def ruleCells : Array Value := ((List.range 9).flatMap fun i => (ruleOf i).cells).toArray
noncomputable def laidWorld (os : Os) : World :=
  { World.holding Tryz.prog os ⟨#[], #[], []⟩ with heap := (World.holding Tryz.prog os ⟨#[], #[], []⟩).heap.modify 0 fun
      | .cells _ t frozen => .cells ruleCells t frozen
      | o => o }
theorem laid_met (os : Os) (args : Array Value) : laidMet Tryz.prog [("nameplan/record.rules", Rows.laid_nameplan_record_rules)] ((laidWorld os).forCall (fun _ _ => 0) ⟨#[], args, []⟩).memory :=
  laidMet_of_run' 8 (by kernel_rfl) (by kernel_rfl)
def dInt {R : Type} : DataW R := .lit (.int .i64 0)
end Go.Proofs.YthabgdbhgcgemaaGreatDoor
