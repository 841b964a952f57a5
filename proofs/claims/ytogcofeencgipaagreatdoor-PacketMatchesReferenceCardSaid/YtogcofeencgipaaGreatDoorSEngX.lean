/- The engine: panics, and deferred calls. -/
import Derived.Test.YtogcofeencgipaaGreatDoorSEngP
namespace Go.Proofs.YtogcofeencgipaaGreatDoor
set_option linter.unusedVariables false
set_option linter.unusedSimpArgs false
open Go Go.RowKit
set_option maxRecDepth 20000
section
variable {P : Program} {n : FK} {w0 w w' : World} {H0 H H' : Hp} {Q : Exit → Act → World → Prop} {env : List (Nat × Value)} {L L' : List Loc} {ops rest : List Oper} {chain : List PanicEntry}
theorem N.panic_then {K : Act → World → Prop} (h : N n w0 H0 Q (.panic chain) env H L) : N n w0 H0 (Exit.then K Q) (.panic chain) env H L := ⟨h.out⟩
theorem N.panic_block {id : Nat} (h : N n w0 H0 Q (.panic chain) env H L) : N n w0 H0 (Exit.inBlock id Q) (.panic chain) env H L := ⟨h.out⟩
/-- The panic leaves the function. -/
theorem N.panic_end {m : Nat} {ro : Option Nat} {fn : Func} {R : Ending → World → Prop} (h : ∀ w, St w0 H0 H L w → R (.panicked chain) w) : N ⟨m, [], ro⟩ w0 H0 (bodyPost P fn R) (.panic chain) env H L :=
  ⟨fun _ w hf hs => ⟨hf.defers, h w hs⟩⟩
/-- 'panic(x)'. -/
theorem TL.panic {x : Operand} {u ty : TypeId} {v : Value} {pos : String} {after : Array Edge} {g : Option (Nat × Bool)} (hw : want ops env ⟨none, .panic x, ty, pos, after, g⟩ = some true) (hx : ev env x = some (.iface u v)) (h : N n w0 H0 Q (.panic [{ v := .iface u v, recovered := false }]) env H L) :
    TL P n w0 H0 ops Q (⟨none, .panic x, ty, pos, after, g⟩ :: rest) env H L :=
  TL.opIn hw fun a w hf hs => bridge rfl (by
    have : (execOp a.eval ⟨none, .panic x, ty, pos, after, g⟩).run P w = .halt (.panic (.iface u v)) w := by
      unfold execOp
      simp [hf.ev hx, Instr.panic, goPanic]
    unfold Oper.wp
    rw [this]
    exact h.out a w hf hs)
/-- A call that may panic. -/
theorem TL.callP {G G' : Type} {φ : G → Prop} {ψ : G' → Prop} {v : G → Value} {HH : G → Hp} {LL : G → List Loc} {HP : G' → Hp} {LP : G' → List Loc} {d : Nat} {x : Operand} {args : Array Operand} {tys : Array TypeId} {ty : TypeId} {pos : String} {after : Array Edge} {g : Option (Nat × Bool)} {f : FuncId} {first cap : Array Value} {vs : List Value} (hn : Nat.blt d n.n = true)
    (hw : want ops env ⟨some d, .call { callee := .value x, args := args, argTypes := tys }, ty, pos, after, g⟩ = some true) (hx : ev env x = some (.func (.func f) first cap)) (hargs : evs env args.toList = some vs)
    (hcall : ∀ (args : Array Value) (w : World), (callFunc f args).run P w = .ok (.enter f args) w)
    (hc : ∀ w, St w0 H0 H L w → CallsIn (FW none) 0 P f (first ++ vs.toArray ++ cap) w (fun e w' => (∃ g, φ g ∧ e = .returned (v g) ∧ St w0 H0 (HH g) (LL g) w') ∨ (∃ g, ψ g ∧ e = .panicked chain ∧ St w0 H0 (HP g) (LP g) w')))
    (hp : ∀ g, ψ g → N n w0 H0 Q (.panic chain) env (HP g) (LP g)) (h : ∀ g, φ g → TL P n w0 H0 ops Q rest ((d, v g) :: env) (HH g) (LL g)) :
    TL P n w0 H0 ops Q (⟨some d, .call { callee := .value x, args := args, argTypes := tys }, ty, pos, after, g⟩ :: rest) env H L :=
  TL.op rfl hw fun a w hf hs => by
    unfold Oper.wp
    rw [run_call rfl (hf.ev hx) (hf.evs hargs) hcall]
    refine Calls.mono (callsFW' (hc w hs)) fun e w' hcase => ?_
    rcases hcase with ⟨g, hg, he, hst⟩ | ⟨g, hg, he, hst⟩
    · subst he
      exact (h g hg).out _ _ (hf.put hn (v g)) hst
    · subst he
      exact (hp g hg).out a w' hf hst
theorem N.ofQP (h : N n w0 H0 Q (.panic chain) env H L) : N n w0 H0 (fun _ a w => (KZ.of Q).z chain a w) (.panic chain) env H L := ⟨fun a w hf hs => h.out a w hf hs⟩
/-- Less is known of the heap from here on. -/
theorem TL.lessH (h0 : H0.le H) (hle : H.le H') (h : TL P n w0 H0 ops Q rest env H L) : TL P n w0 H0 ops Q rest env H' L := ⟨fun a w hf hs => h.out a w hf (hs.lessH h0 hle)⟩
/-- 'defer f()'. -/
theorem TL.defer {x : Operand} {f : FuncId} {cap : Array Value} {tys : Array TypeId} {ty : TypeId} {pos : String} {after : Array Edge} {g : Option (Nat × Bool)} (hr : n.r = none) (hw : want ops env ⟨none, .defer { callee := .value x, args := #[], argTypes := tys }, ty, pos, after, g⟩ = some true) (hx : ev env x = some (.func (.func f) #[] cap))
    (h : TL P { n with D := ⟨.fn (.func f) cap, #[]⟩ :: n.D } w0 H0 ops Q rest env H L) : TL P n w0 H0 ops Q (⟨none, .defer { callee := .value x, args := #[], argTypes := tys }, ty, pos, after, g⟩ :: rest) env H L :=
  TL.opIn hw fun a w hf hs => by
    refine ⟨fun _ _ => trivial, ?_⟩
    have hro : (FW n.r).round = none := hr
    rw [hro, Oper.semAt_none]
    have : (execOp a.eval ⟨none, .defer { callee := .value x, args := #[], argTypes := tys }, ty, pos, after, g⟩).run P w = .ok (.defer ⟨.fn (.func f) cap, #[]⟩) w := by
      unfold execOp
      simp [resolve, hf.ev hx, Deferred.ofValue]
    rw [this]
    exact h.out _ w ⟨by show _ :: a.defers = _; rw [hf.defers], hf.size, hf.vals⟩ hs
/-- In, of a function that defers. -/
theorem T.enterD {f : FuncId} {fn : Func} {c : Code} {vs : List Value} {w : World} {R : Ending → World → Prop} (hf : P.funcs[f]? = some fn) (hb : fn.body = some c) {m : Nat} (hn : fn.ntmps = m) (hl : Nat.ble vs.length m = true) (hs : St w0 H0 H L w)
    (h : T P ⟨m, [], none⟩ w0 H0 c (bodyPostDIn (FW none) 0 P fn R) (argEnv 0 vs) H L) : CallsIn (FW none) 0 P f vs.toArray w R := by
  refine callsIn_of_wp_defers hf hb trivial (h.out _ w ⟨rfl, ?_, fun t v hv => ?_⟩ hs)
  · have := Nat.le_of_ble_eq_true hl
    simp [hn]; omega
  · obtain ⟨_, h2⟩ := look_argEnv vs 0 t v hv
    rw [Nat.sub_zero] at h2
    have hlt : t < vs.length := (List.getElem?_eq_some_iff.1 h2).1
    rw [Array.getElem?_append_left (by simpa using hlt)]
    simpa using h2
/-- A deferred closure, by what its code does. -/
theorem callsDIn_of_wpS {k : Nat} {f : FuncId} {fn : Func} {c : Code} {args : Array Value} {u : FrameMode} {w : World} {R : Ending → FrameMode → World → Prop}
    (hf : P.funcs[f]? = some fn) (hb : fn.body = some c)
    (h : ∀ (c₀ : Frame) (cs : List Frame), c₀.mode = u →
      c.wpS P (bodyPostS P fn c₀ cs R) { tmps := args ++ Array.replicate (fn.ntmps - args.size) undef, defers := [] } (c₀ :: cs) w) :
    CallsDIn (FW none) k P f args u w R := by
  refine ⟨trivial, fun c₀ cs hu _ => ?_⟩
  let b : Frame := { (default : Frame) with fn := f, kind := .deferred }
  have henter : Frame.enter P f args .deferred =
      b.at { tmps := args ++ Array.replicate (fn.ntmps - args.size) undef, defers := [] } [.code c] := by
    simp [Frame.enter, Frame.at, hf, hb, b]
  obtain ⟨e, a', cs', w', hq, harr⟩ := h c₀ cs hu b [] rfl rfl
  rw [← henter] at harr
  cases e with
  | normal =>
    obtain ⟨hd, u', rfl, v, hr, hR⟩ := hq
    exact ⟨.returned v, u', w', _, hR, stepsIn_wide.2 (Steps.trans harr (.one step_end)), rfl, rfl, rfl, hd, fn, hf, hr⟩
  | ret =>
    obtain ⟨hd, u', rfl, v, hr, hR⟩ := hq
    obtain ⟨todo, hs⟩ := harr
    exact ⟨.returned v, u', w', _, hR, stepsIn_wide.2 hs, rfl, rfl, rfl, hd, fn, hf, hr⟩
  | panic chain =>
    obtain ⟨hd, u', rfl, hR⟩ := hq
    obtain ⟨todo, hs⟩ := harr
    exact ⟨.panicked chain, u', w', _, hR, stepsIn_wide.2 hs, rfl, rfl, rfl, hd, fn, hf⟩
  | exit id => exact hq.elim
  | goto l => exact hq.elim
  | outgrown =>
    obtain ⟨u', hR⟩ := hq
    exact ⟨.outgrown, u', w', b, hR, harr.resolve_left (by simp [b]), rfl, rfl, trivial⟩
/-- One deferred closure: it finds nothing to recover. -/
theorem N.ret1D {m : Nat} {ro : Option Nat} {fn : Func} {R : Ending → World → Prop} {r : ResultVar} {v : Value} {f : FuncId} {cap : Array Value} (hcall : ∀ (args : Array Value) (w : World), (callFunc f args).run P w = .ok (.enter f args) w)
    (hidle : ∀ w, CallsDIn (FW none) 0 P f cap .returning w (fun e u' w' => (∃ x, e = .returned x) ∧ u' = .returning ∧ w' = w)) (hr : fn.results = #[r]) (h1 : RV P ⟨m, [⟨.fn (.func f) cap, #[]⟩], ro⟩ w0 H0 env H L r v) (h : ∀ w, St w0 H0 H L w → R (.returned v) w) :
    N ⟨m, [⟨.fn (.func f) cap, #[]⟩], ro⟩ w0 H0 (bodyPostDIn (FW none) 0 P fn R) .ret env H L :=
  ⟨fun a w hf hs => by
    show LeavesIn (FW none) 0 P fn a.tmps R a.defers .returning w
    rw [hf.defers]
    refine leavesIn_cons (f := f) (args := cap) (by simp) (fun h => by simp [FW, Fence.wide] at h) (by simp [invoke, hcall]) (fun _ _ => trivial) ?_
    refine (hidle w).mono ?_
    rintro e u' w' ⟨⟨x, rfl⟩, rfl, rfl⟩
    refine ⟨v, ?_, h _ hs⟩
    have h2 := h1 a w' hf hs
    rw [results_eq, hr]
    simp [h2]⟩
theorem N.ret2D {m : Nat} {ro : Option Nat} {fn : Func} {R : Ending → World → Prop} {r s : ResultVar} {v y : Value} {f : FuncId} {cap : Array Value} (hcall : ∀ (args : Array Value) (w : World), (callFunc f args).run P w = .ok (.enter f args) w)
    (hidle : ∀ w, CallsDIn (FW none) 0 P f cap .returning w (fun e u' w' => (∃ x, e = .returned x) ∧ u' = .returning ∧ w' = w)) (hr : fn.results = #[r, s]) (h1 : RV P ⟨m, [⟨.fn (.func f) cap, #[]⟩], ro⟩ w0 H0 env H L r v) (h2 : RV P ⟨m, [⟨.fn (.func f) cap, #[]⟩], ro⟩ w0 H0 env H L s y) (h : ∀ w, St w0 H0 H L w → R (.returned (.tuple #[v, y])) w) :
    N ⟨m, [⟨.fn (.func f) cap, #[]⟩], ro⟩ w0 H0 (bodyPostDIn (FW none) 0 P fn R) .ret env H L :=
  ⟨fun a w hf hs => by
    show LeavesIn (FW none) 0 P fn a.tmps R a.defers .returning w
    rw [hf.defers]
    refine leavesIn_cons (f := f) (args := cap) (by simp) (fun h => by simp [FW, Fence.wide] at h) (by simp [invoke, hcall]) (fun _ _ => trivial) ?_
    refine (hidle w).mono ?_
    rintro e u' w' ⟨⟨x, rfl⟩, rfl, rfl⟩
    refine ⟨.tuple #[v, y], ?_, h _ hs⟩
    have h3 := h1 a w' hf hs
    have h4 := h2 a w' hf hs
    rw [results_eq, hr]
    simp [h3, h4]⟩
/-- The ways out of a function that defers, ahead of its defer statement. -/
theorem N.ret2E {m : Nat} {ro : Option Nat} {fn : Func} {R : Ending → World → Prop} {r s : ResultVar} {v y : Value} (hr : fn.results = #[r, s]) (h1 : RV P ⟨m, [], ro⟩ w0 H0 env H L r v) (h2 : RV P ⟨m, [], ro⟩ w0 H0 env H L s y) (h : ∀ w, St w0 H0 H L w → R (.returned (.tuple #[v, y])) w) :
    N ⟨m, [], ro⟩ w0 H0 (bodyPostDIn (FW none) 0 P fn R) .ret env H L :=
  ⟨fun a w hf hs => by
    show LeavesIn (FW none) 0 P fn a.tmps R a.defers .returning w
    rw [hf.defers]
    refine ⟨.tuple #[v, y], ?_, h _ hs⟩
    have h3 := h1 a w hf hs
    have h4 := h2 a w hf hs
    rw [results_eq, hr]
    simp [h3, h4]⟩
end
end Go.Proofs.YtogcofeencgipaaGreatDoor
