import Derived.Test.YtepljgpikfeklaaGreatDoorQUL
import Derived.Test.YtepljgpikfeklaaGreatDoorQOpen
import Derived.Deep.DeepHandedRow
import Derived.Lib.LaidTab
import Derived.Test.YtepljgpikfeklaaGreatDoorQTMap
import Derived.Test.YtepljgpikfeklaaGreatDoorQNA
import Derived.Test.YtepljgpikfeklaaGreatDoorQZU
import Derived.Test.YtepljgpikfeklaaGreatDoorQZW
namespace Go.Proofs.YtepljgpikfeklaaGreatDoor
set_option linter.unusedVariables false
set_option linter.unusedSimpArgs false
open Go Go.RowKit
open Enc (enc)
theorem c_TopClocksC (h : HistV) (c : ClockV) (copy set u t : Int) (H : Hp) (w : World) (hs : Sat H w) (hR : Rules H) (hT : Pow10 H) (hgd : Enc.good H h) (hgc : Enc.good H c) (hcopy : 0 ≤ copy ∧ copy ≤ 255) (hset : 0 ≤ set ∧ set ≤ 255) (hu : I64 u) (ht : I64 t) : Calls Tryz.prog 3 #[.agg (enc h).toArray, .agg (enc c).toArray, .int .u8 copy, .int .u8 set, intV u, intV t] w (Ret w (.bool true)) := by
  obtain ⟨cn, rfl⟩ := Int.eq_ofNat_of_zero_le hcopy.1
  obtain ⟨sn, rfl⟩ := Int.eq_ofNat_of_zero_le hset.1
  exact c_TopClocks h c cn sn u t (by omega) (by omega) hu ht hs hR hT hgd hgc
end Go.Proofs.YtepljgpikfeklaaGreatDoor
namespace Go.Proofs.YtepljgpikfeklaaGreatDoor
set_option linter.unusedVariables false
set_option linter.unusedSimpArgs false
open Go Go.RowKit Go.ChangeShapes Go.WideShapes
set_option maxRecDepth 100000
theorem own : ownKnob Tryz.prog.godebug = none := by kernel_rfl
def ruleCells : Array Value := ((List.range 9).flatMap fun i => (ruleOf i).cells).toArray
noncomputable def laidWorld (os : Os) : World :=
  { World.holding Tryz.prog os ⟨#[], #[], []⟩ with heap := (World.holding Tryz.prog os ⟨#[], #[], []⟩).heap.modify 0 fun
      | .cells _ t frozen => .cells ruleCells t frozen
      | o => o }
def dInt {R : Type} : DataW R := .lit (.int .i64 0)
def dStr {R : Type} : DataW R := .lit (.string [])
end Go.Proofs.YtepljgpikfeklaaGreatDoor
namespace Go.Proofs.YtepljgpikfeklaaGreatDoor
set_option linter.unusedVariables false
set_option linter.unusedSimpArgs false
open Go Go.RowKit Go.ChangeShapes Go.WideShapes
set_option maxRecDepth 100000
section
variable {w : World} {base : Nat} {sp : Nat → Bool} {held : Bool}
theorem decHost : Dec Tryz.prog w base sp held HostV 64 := by
  intro R en fuel cs x h
  obtain ⟨hl, n, hf⟩ := dec_fields (t := 64) rfl rfl h
  obtain ⟨_, h0⟩ := hf 0 _ rfl
  obtain ⟨_, h1⟩ := hf 1 _ rfl
  obtain ⟨_, h2⟩ := hf 2 _ rfl
  obtain ⟨a0, e0, g0⟩ := decStr rfl rfl h0
  obtain ⟨a1, e1, g1⟩ := decInt rfl rfl h1
  obtain ⟨a2, e2, g2⟩ := decInt rfl rfl h2
  exact ⟨⟨a0, a1, a2⟩, joinL (o := 0) e0 (joinL e1 (joinL e2 (List.drop_eq_nil_of_le (Nat.le_of_eq hl)))), g0, g1, g2⟩
theorem decZone : Dec Tryz.prog w base sp held ZoneV 36 := by
  intro R en fuel cs x h
  obtain ⟨hl, n, hf⟩ := dec_fields (t := 36) rfl rfl h
  obtain ⟨_, h0⟩ := hf 0 _ rfl
  obtain ⟨_, h1⟩ := hf 1 _ rfl
  obtain ⟨a0, e0, g0⟩ := decStr rfl rfl h0
  obtain ⟨a1, e1, g1⟩ := decSlice (α := Signed) rfl rfl rfl rfl decSigned h1
  exact ⟨⟨a0, a1⟩, joinL (o := 0) e0 (joinL e1 (List.drop_eq_nil_of_le (Nat.le_of_eq hl))), g0, g1⟩
theorem decCopy : Dec Tryz.prog w base sp held CopyV 38 := by
  intro R en fuel cs x h
  obtain ⟨hl, n, hf⟩ := dec_fields (t := 38) rfl rfl h
  obtain ⟨_, h0⟩ := hf 0 _ rfl
  obtain ⟨_, h1⟩ := hf 1 _ rfl
  obtain ⟨_, h2⟩ := hf 2 _ rfl
  obtain ⟨_, h3⟩ := hf 3 _ rfl
  obtain ⟨a0, e0, g0⟩ := decInt rfl rfl h0
  obtain ⟨a1, e1, g1⟩ := decInt rfl rfl h1
  obtain ⟨a2, e2, g2⟩ := decInt rfl rfl h2
  obtain ⟨a3, e3, g3⟩ := decZone _ _ _ _ h3
  exact ⟨⟨a0, a1, a2, a3⟩, joinL (o := 0) e0 (joinL e1 (joinL e2 (joinL e3 (List.drop_eq_nil_of_le (Nat.le_of_eq hl))))), g0, g1, g2, g3⟩
theorem decI64H : Dec Tryz.prog w base sp held Int 3 := by
  intro R en fuel cs x h
  obtain ⟨a0, e0, g0⟩ := dec_int Tryz.underlying3 h
  exact ⟨a0, e0, g0⟩
theorem decHist : Dec Tryz.prog w base sp held HistV 29 := by
  intro R en fuel cs x h
  obtain ⟨hl, n, hf⟩ := dec_fields (t := 29) rfl rfl h
  obtain ⟨_, h0⟩ := hf 0 _ rfl
  obtain ⟨_, h1⟩ := hf 1 _ rfl
  obtain ⟨_, h2⟩ := hf 2 _ rfl
  obtain ⟨_, h3⟩ := hf 3 _ rfl
  obtain ⟨_, h4⟩ := hf 4 _ rfl
  obtain ⟨_, h5⟩ := hf 5 _ rfl
  obtain ⟨a0, e0, g0⟩ := decSlice (α := HostV) rfl rfl rfl rfl decHost h0
  obtain ⟨a1, e1, g1⟩ := decSlice (α := CopyV) rfl rfl rfl rfl decCopy h1
  obtain ⟨a2, e2, g2⟩ := decSet _ _ _ _ h2
  obtain ⟨a3, e3, g3⟩ := decSlice (α := Int) rfl rfl rfl rfl decI64H h3
  obtain ⟨a4, e4, g4⟩ := decInt rfl rfl h4
  obtain ⟨a5, e5, g5⟩ := decInt rfl rfl h5
  exact ⟨⟨a0, a1, a2, a3, a4, a5⟩, joinL (o := 0) e0 (joinL e1 (joinL e2 (joinL e3 (joinL e4 (joinL e5 (List.drop_eq_nil_of_le (Nat.le_of_eq hl))))))), g0, g1, g2, g3, g4, g5⟩
theorem decClock : Dec Tryz.prog w base sp held ClockV 31 := by
  intro R en fuel cs x h
  obtain ⟨hl, n, hf⟩ := dec_fields (t := 31) rfl rfl h
  obtain ⟨_, h0⟩ := hf 0 _ rfl
  obtain ⟨_, h1⟩ := hf 1 _ rfl
  obtain ⟨a0, e0, g0⟩ := decInt rfl rfl h0
  obtain ⟨a1, e1, g1⟩ := decInt rfl rfl h1
  exact ⟨⟨a0, a1⟩, joinL (o := 0) e0 (joinL e1 (List.drop_eq_nil_of_le (Nat.le_of_eq hl))), g0, g1⟩
end
theorem rules_of4 {x y z : String × DataW Unit} {rest : List (String × DataW Unit)} {W : World} (h : laidMet Tryz.prog (x :: y :: z :: ("nameplan/record.rules", Rows.laid_nameplan_record_rules) :: rest) W) : Rules (heapOf W) := by
  obtain ⟨ps, h, _⟩ := h
  obtain ⟨g, t, cs, fuel, p, q, _, _, _, _, h, _⟩ := h
  obtain ⟨g, t, cs, fuel, p, q, _, _, _, _, h, _⟩ := h
  obtain ⟨g, t, cs, fuel, p, q, _, _, _, _, h, _⟩ := h
  exact rules_at h
theorem pow10_data {R : Type} : (Rows.laid_internal_strconv_uint64pow10 : DataW R) = Lib.tabData .u64 Lib.pow10Tab := rfl
theorem gPow : Tryz.prog.globalNamed "internal/strconv.uint64pow10" = some 1 := by kernel_rfl
theorem gPowT : (Tryz.prog.globals[1]?).map (·.type) = some 250 := by kernel_rfl
theorem pow_at {rest : List (String × DataW Unit)} {W : World} {ps : List MemPlace} (h : DataW.LaidVars Tryz.prog W (("internal/strconv.uint64pow10", Rows.laid_internal_strconv_uint64pow10) :: rest) ps) : Lib.TabIs Tryz.prog W "internal/strconv.uint64pow10" .u64 Lib.pow10Tab := by
  obtain ⟨g', t', cs, fuel, p, q, hg', ht', hvar, hd, _, _⟩ := h
  obtain rfl := Option.some.inj (gPow.symm.trans hg')
  obtain rfl := Option.some.inj (gPowT.symm.trans ht')
  unfold Lib.TabIs
  rw [pow10_data] at hd
  rw [hvar, ← Lib.cells_of_tab Tryz.underlying250 Tryz.underlying77 (by kernel_rfl) (by kernel_rfl) hd]
theorem pow_of4 {x y : String × DataW Unit} {rest : List (String × DataW Unit)} {W : World} (h : laidMet Tryz.prog (x :: y :: ("internal/strconv.uint64pow10", Rows.laid_internal_strconv_uint64pow10) :: rest) W) : Pow10 (heapOf W) := by
  obtain ⟨ps, h, _⟩ := h
  obtain ⟨g, t, cs, fuel, p, q, _, _, _, _, h, _⟩ := h
  obtain ⟨g, t, cs, fuel, p, q, _, _, _, _, h, _⟩ := h
  have h1 := pow_at h
  intro w hs
  unfold Lib.TabIs at h1 ⊢
  unfold World.var? at h1 ⊢
  rw [gPow, Option.bind_some] at h1 ⊢
  cases hw : W.heap[1]? with
  | none => rw [hw] at h1; cases h1
  | some o =>
    rw [hw] at h1
    rw [hs _ o hw]
    exact h1
def tabCells (k : IntKind) (l : List Int) : Array Value := (l.map fun z => Value.int k z).toArray
def tab32 : List Int := [0, 1, 28, 2, 29, 14, 24, 3, 30, 22, 20, 15, 25, 17, 4, 8, 31, 27, 13, 23, 21, 19, 16, 7, 26, 12, 18, 6, 11, 5, 10, 9]
def tab64 : List Int := [0, 1, 56, 2, 57, 49, 28, 3, 61, 58, 42, 50, 38, 29, 17, 4, 62, 47, 59, 36, 45, 43, 51, 22, 53, 39, 33, 30, 24, 18, 12, 5, 63, 55, 48, 27, 60, 41, 37, 16, 46, 35, 44, 21, 52, 32, 23, 11, 54, 26, 40, 15, 34, 20, 31, 10, 25, 14, 19, 9, 13, 8, 7, 6]
def putTab (c : Array Value) : Obj → Obj
  | .cells _ t frozen => .cells c t frozen
  | o => o
noncomputable def laidWorld4 (os : Os) : World :=
  { laidWorld os with heap := (((laidWorld os).heap.modify 3 (putTab (tabCells .u8 tab32))).modify 4 (putTab (tabCells .u8 tab64))).modify 1 (putTab (tabCells .u64 Lib.pow10Tab)) }
theorem laid_met4 (os : Os) (args : Array Value) : laidMet Tryz.prog [("math/bits.deBruijn32tab", Rows.laid_math_bits_deBruijn32tab), ("math/bits.deBruijn64tab", Rows.laid_math_bits_deBruijn64tab), ("internal/strconv.uint64pow10", Rows.laid_internal_strconv_uint64pow10), ("nameplan/record.rules", Rows.laid_nameplan_record_rules)] ((laidWorld4 os).forCall (fun _ _ => 0) ⟨#[], args, []⟩).memory :=
  laidMet_of_run' 8 (by kernel_rfl) (by kernel_rfl)
end Go.Proofs.YtepljgpikfeklaaGreatDoor
