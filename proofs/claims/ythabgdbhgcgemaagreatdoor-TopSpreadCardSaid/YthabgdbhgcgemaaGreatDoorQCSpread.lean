import Derived.Test.YthabgdbhgcgemaaGreatDoorQOpen
import Derived.Test.YthabgdbhgcgemaaGreatDoorQWit
import Derived.Test.YthabgdbhgcgemaaGreatDoorCards
import Derived.Test.YthabgdbhgcgemaaGreatDoorTie
import Derived.Deep.DeepHandedRow
import Derived.Lib.LaidTab
namespace Go.Proofs.YthabgdbhgcgemaaGreatDoor.topSpread
set_option linter.unusedVariables false
set_option linter.unusedSimpArgs false
open Go Go.RowKit Go.ChangeShapes Go.WideShapes
open Enc (enc)
set_option maxRecDepth 100000
theorem contract (R : Type) (en : TypeId × Value → R) (W : World) (base : Nat) (args : Array Value) (ds gs : List (DataW R)) (before : List MemPlace)
    (hval : ∀ (j : Nat) t v, Tryz.f3.params[j]? = some t → args[j]? = some v → Value.okWide Tryz.prog W .any base t v)
    (hW : DataW.Whole en Tryz.prog Tryz.f3.params.toList Rows.topSpreadSpec.vars false W args.toList ds gs before) (hL : laidMetH Tryz.prog Rows.topSpreadRow.laid W) :
    Calls Tryz.prog 3 args W fun e W' => ∃ v, e = .returned v ∧ Rows.topSpreadSpec.post en Tryz.prog Tryz.f3 false true false false W args v W' := by
  have hW' := hW
  obtain ⟨p, q, hA, _⟩ := hW
  rw [Tryz.params3] at hA hval
  obtain ⟨v0, _, d0, _, p0, _, hargs, _, _, h0, r0⟩ := trodAll_cons hA
  obtain ⟨v1, _, d1, _, p1, _, e1, _, _, h1, r1⟩ := trodAll_cons r0
  obtain ⟨v2, _, d2, _, p2, _, e2, _, _, h2, r2⟩ := trodAll_cons r1
  obtain ⟨v3, _, d3, _, p3, _, e3, _, _, h3, r3⟩ := trodAll_cons r2
  obtain ⟨v4, _, d4, _, p4, _, e4, _, _, h4, r4⟩ := trodAll_cons r3
  obtain ⟨v5, _, d5, _, p5, _, e5, _, _, h5, r5⟩ := trodAll_cons r4
  obtain ⟨e6, _, _⟩ := trodAll_nil r5
  rw [e6] at e5
  rw [e5] at e4
  rw [e4] at e3
  rw [e3] at e2
  rw [e2] at e1
  rw [e1] at hargs
  obtain rfl : args = #[v0, v1, v2, v3, v4, v5] := by
    rw [← Array.toArray_toList (xs := args), hargs]
  obtain ⟨x0, rfl, g0⟩ := arg_slice (α := VersionV) Tryz.underlying22 (by kernel_rfl) decVersion (hval 0 _ _ rfl rfl) h0
  obtain ⟨x1, rfl, g1⟩ := arg_int Tryz.underlying3 (hval 1 _ _ rfl rfl) h1
  obtain ⟨x2, rfl, g2⟩ := arg_slice (α := PollV) Tryz.underlying23 (by kernel_rfl) decPoll (hval 2 _ _ rfl rfl) h2
  obtain ⟨x3, rfl, _⟩ := arg_int Tryz.underlying3 (hval 3 _ _ rfl rfl) h3
  obtain ⟨x4, rfl, g4⟩ := arg_u8 Tryz.underlying5 (hval 4 _ _ rfl rfl) h4
  obtain ⟨x5, rfl, g5⟩ := arg_int Tryz.underlying3 (hval 5 _ _ rfl rfl) h5
  have hR : Rules (heapOf W) := rules_of (rest := []) hL
  refine (c_TopSpreadC x0 x1 x2 x3 x4 x5 (heapOf W) W (sat_heapOf W) hR g0 g1 g2 g4 g5).mono fun e W' hret => ?_
  exact ⟨_, hret.1, shut laidOut (by decide +kernel) (by kernel_rfl) Tryz.underlying4 rfl (fun hl => by
    match ds, hl with
    | [_, _, _, _, _, _], _ => rfl) hW' hret.2⟩
def args : Array Value := #[.slice none 0 0, intV 0, .slice none 0 0, intV 0, .int .u8 0, intV 0]
theorem reads (os : Os) {R : Type} (en : TypeId × Value → R) : ∃ places, DataW.whole en Tryz.prog ((laidWorld os).forCall (fun _ _ => 0) ⟨#[], args, []⟩).memory Tryz.f3.params.toList Rows.topSpreadSpec.vars false args.toList 8 = some ([.nil, dInt, .nil, dInt, .lit (.int .u8 0), dInt], [], places) :=
  ⟨[], by kernel_rfl⟩
theorem lifted (os : Os) (started : os.Started) (R : Type) (en : TypeId × Value → R) (F : Stop.Interp) :
    ReturnsInHanded {} Tryz.checked os 3 .any ((OpenSpec.ofChange Rows.topSpreadSpec).preRow en Tryz.prog Tryz.f3 Rows.topSpreadRow.domain false Rows.topSpreadRow.laid) (((OpenSpec.ofChange Rows.topSpreadSpec).at F).post en Tryz.prog Tryz.f3 false true false false) := by
  obtain ⟨places, hx⟩ := reads os en
  refine returnsInHanded_of_row (C := Tryz.checked) (s := OpenSpec.ofChange Rows.topSpreadSpec) own started (by kernel_rfl) Tryz.func3
    (witness_row_at (enc := en) (C := Tryz.checked) false (laidWorld os) args rfl (by kernel_rfl) (by kernel_rfl) (by kernel_rfl)
      (OpenSpec.preRow_of_cond 8 hx (by kernel_rfl) (fun k hk => by cases hk) (by kernel_rfl) (laid_met os args))) ?_
  intro W base args ds gs before hval hW _ _ _ hL _ _
  exact contract R en W base args ds gs before hval hW hL
theorem said : Rows.TopSpreadSaid :=
  OpenClaim.holds_of_cond 3 Tryz.f3 rfl rfl rfl rfl rfl rfl rfl ⟨rfl, rfl, rfl, rfl, rfl⟩ rfl rfl rfl rfl rfl (by kernel_rfl) Tryz.func3 (by kernel_rfl)
    (of_decide_eq_true (by kernel_rfl)) (by unfold Func.isWrapper; first | (rw [if_pos (by decide +kernel)]; kernel_rfl) | (rw [if_neg (by decide +kernel)]; exact ⟨rfl, rfl⟩))
    (fun os started R en _ F => by rw [OpenClaim.pre_eq_preRow]; exact lifted os started R en F)
theorem plain (f : FuncId) (fn : Func) (hf : Tryz.pinned.checked.prog.funcNamed "nameplan/nameplantop.TopSpread" = some f) (hfn : Tryz.pinned.checked.prog.funcs[f]? = some fn) :
    false = Tryz.pinned.checked.prog.looks [] ∧ ∀ (j : Nat) t, fn.params[j]? = some t → Tryz.pinned.checked.prog.wantsStandIn t = false := by
  obtain rfl : f = 3 := Option.some.inj ((show Tryz.prog.funcNamed "nameplan/nameplantop.TopSpread" = some 3 by kernel_rfl).symm.trans hf) |>.symm
  obtain rfl : fn = Tryz.f3 := (Option.some.inj (Tryz.func3.symm.trans hfn)).symm
  refine ⟨by kernel_rfl, fun j t ht => ?_⟩
  have hall : ∀ t ∈ Tryz.f3.params.toList, Tryz.pinned.checked.prog.wantsStandIn t = false := by decide +kernel
  exact hall t (by simpa using Array.mem_of_getElem? ht)
theorem card : Rows.TopSpreadCardSaid :=
  Claim7.holds_tied_plain_at .later [] _ _ _ _ said (fun _ h => by cases h) (by kernel_rfl) (fun _ h => by cases h) topSpread_row_tie rfl ⟨rfl, rfl⟩ (by kernel_rfl) rfl plain (by kernel_rfl)
end Go.Proofs.YthabgdbhgcgemaaGreatDoor.topSpread
