/- The law IterateServers: for every input the function returns true, and each argument reads behind the call as it read before it. Conditions: those of the given statement, none beyond. -/
import Derived.Test.YtfbhcemlnojejaaDoorQOpen
import Derived.Test.YtfbhcemlnojejaaDoorQIR
import Derived.Test.YtfbhcemlnojejaaDoorQOpenI
import Derived.Test.YtfbhcemlnojejaaDoorCards
import Derived.Test.YtfbhcemlnojejaaDoorTie
import Derived.Test.YtfbhcemlnojejaaDoorQWit
import Derived.Deep.DeepHandedRow
import Derived.Lib.LaidTab
namespace Go.Proofs.YtfbhcemlnojejaaDoor.iterateServers
set_option linter.unusedVariables false
set_option linter.unusedSimpArgs false
open Go Go.RowKit Go.ChangeShapes Go.WideShapes
open Enc (enc)
set_option maxRecDepth 100000

theorem contract (R : Type) (en : TypeId × Value → R) (W : World) (base : Nat) (args : Array Value) (ds gs : List (DataW R)) (before : List MemPlace)
    (hval : ∀ (j : Nat) t v, Tryd.f12.params[j]? = some t → args[j]? = some v → Value.okWide Tryd.prog W .any base t v)
    (hW : DataW.Whole en Tryd.prog Tryd.f12.params.toList Rows.iterateServersSpec.vars false W args.toList ds gs before) (hL : laidMetH Tryd.prog Rows.iterateServersRow.laid W) (vt : List TypeId) (hwt : (DataW.weightsEach Tryd.prog (Tryd.f12.params.toList ++ vt) (ds ++ gs)).all (· ≤ reachBytes) = true) :
    Calls Tryd.prog 12 args W fun e W' => ∃ v, e = .returned v ∧ Rows.iterateServersSpec.post en Tryd.prog Tryd.f12 false true false false W args v W' := by
  have hW' := hW
  obtain ⟨p, q, hA, _⟩ := hW
  rw [Tryd.params12] at hA hval hwt
  obtain ⟨v0, _, d0, _, p0, _, hargs, hd0, _, h0, r0⟩ := trodAll_cons hA
  obtain ⟨v1, _, d1, _, p1, _, e1, _, _, h1, r1⟩ := trodAll_cons r0
  obtain ⟨v2, _, d2, _, p2, _, e2, _, _, h2, r2⟩ := trodAll_cons r1
  obtain ⟨v3, _, d3, _, p3, _, e3, _, _, h3, r3⟩ := trodAll_cons r2
  obtain ⟨v4, _, d4, _, p4, _, e4, _, _, h4, r4⟩ := trodAll_cons r3
  obtain ⟨v5, _, d5, _, p5, _, e5, _, _, h5, r5⟩ := trodAll_cons r4
  obtain ⟨e6, _, _⟩ := trodAll_nil r5
  rw [e6] at e5
  rw [e5] at e4
  rw [e4] at e3
  rw [e3] at e2
  rw [e2] at e1
  rw [e1] at hargs
  obtain rfl : args = #[v0, v1, v2, v3, v4, v5] := by
    rw [← Array.toArray_toList (xs := args), hargs]
  obtain ⟨x0, rfl, g0⟩ := arg_slice (α := Signed) Tryd.underlying22 (by kernel_rfl) decSigned (hval 0 _ _ rfl rfl) h0
  obtain ⟨x1, rfl, g1⟩ := arg_slice (α := Int) Tryd.underlying68 (by kernel_rfl) decI64 (hval 1 _ _ rfl rfl) h1
  obtain ⟨x2, rfl, g2⟩ := arg_struct Tryd.underlying30 decQuestion (hval 2 _ _ rfl rfl) h2
  obtain ⟨x3, rfl, g3⟩ := arg_strC Tryd.underlying9 (hval 3 _ _ rfl rfl) h3
  obtain ⟨x4, rfl, g4⟩ := arg_strC Tryd.underlying9 (hval 4 _ _ rfl rfl) h4
  obtain ⟨x5, rfl, g5⟩ := arg_int Tryd.underlying3 (hval 5 _ _ rfl rfl) h5
  rw [hd0] at hwt
  have hw0 := slice_weight (s := x0) Tryd.underlying22 h0 (weights_head (t := 22) hwt)
  rw [show Tryd.prog.bytesOf 37 = 80 by kernel_rfl] at hw0
  have hR : Rules (heapOf W) := rules_of (rest := []) hL
  refine (c_IServers x0 x1 x2 x3 x4 x5 (heapOf W) W (sat_heapOf W) hR g0 g1 g2 g3 g4 g5 hw0).mono fun e W' hret => ?_
  exact ⟨_, hret.1, shut laidOut (by decide +kernel) (by kernel_rfl) Tryd.underlying4 rfl (fun hl => by
    match ds, hl with
    | [_, _, _, _, _, _], _ => rfl) hW' hret.2⟩
def args : Array Value := #[.slice none 0 0, .slice none 0 0, .agg #[strV [], intV 0], strV [], strV [], intV 0]
theorem reads (os : Os) {R : Type} (en : TypeId × Value → R) : ∃ places, DataW.whole en Tryd.prog ((laidWorld os).forCall (fun _ _ => 0) ⟨#[], args, []⟩).memory Tryd.f12.params.toList Rows.iterateServersSpec.vars false args.toList 8 = some ([.nil, .nil, .agg [dStr, dInt], dStr, dStr, dInt], [], places) :=
  ⟨[], by kernel_rfl⟩
theorem lifted (os : Os) (started : os.Started) (R : Type) (en : TypeId × Value → R) (F : Stop.Interp) :
    ReturnsInHanded {} Tryd.checked os 12 .any ((OpenSpec.ofChange Rows.iterateServersSpec).preRow en Tryd.prog Tryd.f12 Rows.iterateServersRow.domain false Rows.iterateServersRow.laid) (((OpenSpec.ofChange Rows.iterateServersSpec).at F).post en Tryd.prog Tryd.f12 false true false false) := by
  obtain ⟨places, hx⟩ := reads os en
  refine returnsInHanded_of_row (C := Tryd.checked) (s := OpenSpec.ofChange Rows.iterateServersSpec) own started (by kernel_rfl) Tryd.func12
    (witness_row_at (enc := en) (C := Tryd.checked) false (laidWorld os) args rfl (by kernel_rfl) (by kernel_rfl) (by kernel_rfl)
      (OpenSpec.preRow_of_cond 8 hx (by kernel_rfl) (fun k hk => by cases hk) (by kernel_rfl) (laid_met os args))) ?_
  intro W base args ds gs before hval hW _ _ hwt hL _ _
  exact contract R en W base args ds gs before hval hW hL _ hwt
theorem said : Rows.IterateServersSaid :=
  OpenClaim.holds_of_cond 12 Tryd.f12 rfl rfl rfl rfl rfl rfl rfl ⟨rfl, rfl, rfl, rfl, rfl⟩ rfl rfl rfl rfl rfl (by kernel_rfl) Tryd.func12 (by kernel_rfl)
    (of_decide_eq_true (by kernel_rfl)) (by unfold Func.isWrapper; first | (rw [if_pos (by decide +kernel)]; kernel_rfl) | (rw [if_neg (by decide +kernel)]; exact ⟨rfl, rfl⟩))
    (fun os started R en _ F => by rw [OpenClaim.pre_eq_preRow]; exact lifted os started R en F)
theorem plain (f : FuncId) (fn : Func) (hf : Tryd.pinned.checked.prog.funcNamed "nameplan/nameplanlaw28.IterateServers" = some f) (hfn : Tryd.pinned.checked.prog.funcs[f]? = some fn) :
    false = Tryd.pinned.checked.prog.looks [] ∧ ∀ (j : Nat) t, fn.params[j]? = some t → Tryd.pinned.checked.prog.wantsStandIn t = false := by
  obtain rfl : f = 12 := Option.some.inj ((show Tryd.prog.funcNamed "nameplan/nameplanlaw28.IterateServers" = some 12 by kernel_rfl).symm.trans hf) |>.symm
  obtain rfl : fn = Tryd.f12 := (Option.some.inj (Tryd.func12.symm.trans hfn)).symm
  refine ⟨by kernel_rfl, fun j t ht => ?_⟩
  have hall : ∀ t ∈ Tryd.f12.params.toList, Tryd.pinned.checked.prog.wantsStandIn t = false := by decide +kernel
  exact hall t (by simpa using Array.mem_of_getElem? ht)
theorem card : Rows.IterateServersCardSaid :=
  Claim7.holds_tied_plain_at .later [] _ _ _ _ said (fun _ h => by cases h) (by kernel_rfl) (fun _ h => by cases h) iterateServers_row_tie rfl ⟨rfl, rfl⟩ (by kernel_rfl) rfl plain (by kernel_rfl)
end Go.Proofs.YtfbhcemlnojejaaDoor.iterateServers
