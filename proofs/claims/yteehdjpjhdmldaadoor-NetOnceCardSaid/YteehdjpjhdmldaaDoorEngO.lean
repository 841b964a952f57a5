/-
  The engine: calls that hand over memory of their own; calls that write into their caller's.
-/
import Derived.Test.YteehdjpjhdmldaaDoorEngF
import Derived.Test.YteehdjpjhdmldaaDoorEngQ
namespace Go.Proofs.YteehdjpjhdmldaaDoor
set_option linter.unusedVariables false
set_option linter.unusedSimpArgs false
open Go Go.RowKit

section
variable {P : Program} {n : FK} {w0 w w' : World} {H0 H H' : Hp} {Q : Exit → Act → World → Prop} {env : List (Nat × Value)} {L L' : List Loc} {ops rest : List Oper}
theorem Loc.ok.base {base base' : Nat} (hb : base ≤ base') {e : Loc} (h : e.ok base' w) : e.ok base w := by
  cases e with
  | blk b T cs => exact ⟨Nat.le_trans hb h.1, h.2⟩
  | row v e size n xs =>
    refine ⟨h.1, ?_⟩
    rcases h.2 with h2 | ⟨g, cap, cur, hv, hg, r⟩
    · exact .inl h2
    · exact .inr ⟨g, cap, cur, hv, Nat.le_trans hb hg, r⟩
  | any b o => exact ⟨Nat.le_trans hb h.1, h.2⟩
/-- A call that hands over memory of its own. -/
theorem St.callO (h : St w0 H0 H L w) (hf : St w H H' L' w') : St w0 H0 H' (L' ++ L) w' := by
  have hc := h.call hf.fresh
  refine ⟨hc.below, hc.sat, hc.le, hc.new, fun e he => ?_, fun e he => ?_, ?_⟩
  · rcases List.mem_append.1 he with he | he
    · exact (hf.ok e he).base h.below.size
    · exact hc.ok e he
  · rcases List.mem_append.1 he with he | he
    · exact hf.out e he
    · exact hc.out e he
  · refine List.pairwise_append.2 ⟨hf.apart, h.apart, fun e he f hf' b hb hb' => ?_⟩
    have h1 := ((hf.ok e he).lt hb).2
    have h2 := ((h.ok f hf').lt hb').1
    omega
/-- It hands over memory of its own. -/
def RetO {G : Type} (w : World) (H : Hp) (φ : G → Prop) (v : G → Value) (H' : G → Hp) (LL : G → List Loc) : Ending → World → Prop := fun e w' => ∃ g, φ g ∧ e = .returned (v g) ∧ St w H (H' g) (LL g) w'
theorem X.callO {G : Type} {φ : G → Prop} {v : G → Value} {H' : G → Hp} {LL : G → List Loc} {d : Nat} {x : Operand} {args : Array Operand} {tys : Array TypeId} {ty : TypeId} {pos : String} {after : Array Edge} {g : Option (Nat × Bool)} {f : FuncId} {first cap : Array Value} {vs : List Value} (hn : Nat.blt d n.n = true)
    (hx : ev env x = some (.func (.func f) first cap)) (hargs : evs env args.toList = some vs)
    (hcall : ∀ (args : Array Value) (w : World), (callFunc f args).run P w = .ok (.enter f args) w)
    (hc : ∀ w, St w0 H0 H L w → Calls P f (first ++ vs.toArray ++ cap) w (RetO w H φ v H' LL)) :
    X P n w0 H0 env H L ⟨some d, .call { callee := .value x, args := args, argTypes := tys }, ty, pos, after, g⟩ true (fun g => φ g ∧ H.le (H' g)) (fun g => (d, v g) :: env) H' (fun g => LL g ++ L) :=
  ⟨fun a w hf hs K Q hK => by
    unfold Oper.wp
    rw [run_call rfl (hf.ev hx) (hf.evs hargs) hcall]
    refine Calls.mono (hc w hs) fun e w' ⟨g, hg, he, hb⟩ => ?_
    subst he
    exact hK g _ _ ⟨hg, hb.le⟩ (fun _ => hb.below) (hf.put hn _) (hs.callO hb)⟩
theorem X.callO0 {G : Type} {φ : G → Prop} {v : G → Value} {H' : G → Hp} {LL : G → List Loc} {d : Nat} {f : FuncId} {args : Array Operand} {tys : Array TypeId} {ty : TypeId} {pos : String} {after : Array Edge} {g : Option (Nat × Bool)} {vs : List Value}
    (hcall : ∀ (args : Array Value) (w : World), (callFunc f args).run P w = .ok (.enter f args) w) (hn : Nat.blt d n.n = true)
    (hargs : evs env args.toList = some vs) (hc : ∀ w, St w0 H0 H L w → Calls P f vs.toArray w (RetO w H φ v H' LL)) :
    X P n w0 H0 env H L ⟨some d, .call { callee := .value (.func f), args := args, argTypes := tys }, ty, pos, after, g⟩ true (fun g => φ g ∧ H.le (H' g)) (fun g => (d, v g) :: env) H' (fun g => LL g ++ L) :=
  X.callO hn (by rfl) hargs hcall (fun w hs => by simpa using hc w hs)
/-- A call that writes into its caller's. -/
theorem X.callS {G : Type} {φ : G → Prop} {v : G → Value} {HH : G → Hp} {LL : G → List Loc} {d : Nat} {x : Operand} {args : Array Operand} {tys : Array TypeId} {ty : TypeId} {pos : String} {after : Array Edge} {g : Option (Nat × Bool)} {f : FuncId} {first cap : Array Value} {vs : List Value} (hn : Nat.blt d n.n = true)
    (hx : ev env x = some (.func (.func f) first cap)) (hargs : evs env args.toList = some vs)
    (hcall : ∀ (args : Array Value) (w : World), (callFunc f args).run P w = .ok (.enter f args) w)
    (hc : ∀ w, St w0 H0 H L w → CallsIn (FW none) 0 P f (first ++ vs.toArray ++ cap) w (fun e w' => ∃ g, φ g ∧ e = .returned (v g) ∧ St w0 H0 (HH g) (LL g) w')) :
    X P n w0 H0 env H L ⟨some d, .call { callee := .value x, args := args, argTypes := tys }, ty, pos, after, g⟩ false φ (fun g => (d, v g) :: env) HH LL :=
  ⟨fun a w hf hs K Q hK => by
    unfold Oper.wp
    rw [run_call rfl (hf.ev hx) (hf.evs hargs) hcall]
    refine Calls.mono (callsFW' (hc w hs)) fun e w' ⟨g, hg, he, hb⟩ => ?_
    subst he
    exact hK g _ _ hg (fun h => by cases h) (hf.put hn _) hb⟩
theorem X.callS0 {G : Type} {φ : G → Prop} {v : G → Value} {HH : G → Hp} {LL : G → List Loc} {d : Nat} {f : FuncId} {args : Array Operand} {tys : Array TypeId} {ty : TypeId} {pos : String} {after : Array Edge} {g : Option (Nat × Bool)} {vs : List Value}
    (hcall : ∀ (args : Array Value) (w : World), (callFunc f args).run P w = .ok (.enter f args) w) (hn : Nat.blt d n.n = true)
    (hargs : evs env args.toList = some vs) (hc : ∀ w, St w0 H0 H L w → CallsIn (FW none) 0 P f vs.toArray w (fun e w' => ∃ g, φ g ∧ e = .returned (v g) ∧ St w0 H0 (HH g) (LL g) w')) :
    X P n w0 H0 env H L ⟨some d, .call { callee := .value (.func f), args := args, argTypes := tys }, ty, pos, after, g⟩ false φ (fun g => (d, v g) :: env) HH LL :=
  X.callS hn (by rfl) hargs hcall (fun w hs => by simpa using hc w hs)
end
end Go.Proofs.YteehdjpjhdmldaaDoor
