/- '==' and '!=' on structs. -/
import Derived.Test.YtpnoabbdcakjkaaGreatDoorQTy
import Derived.Laws.StructEq
namespace Go.Proofs.YtpnoabbdcakjkaaGreatDoor
set_option linter.unusedVariables false
set_option linter.unusedSimpArgs false
open Go Go.RowKit
open Enc (enc)
set_option maxRecDepth 20000
section
variable {P : Program} {n : FK} {S : World → Prop} {env : List (Nat × Value)}
theorem V.aeql {t u : TypeId} {x y : Operand} {xs ys : Array Value} {e : Bool} (hx : ev env x = some (.agg xs)) (hy : ev env y = some (.agg ys)) (hg : P.eqGuardType P.depth t = false) (he : ∀ w, (Op.equalIn 10000 t (.agg xs) (.agg ys)).run P w = .ok e w) : V P n S env (.binOp .eql t x y u) (.bool e) :=
  ⟨fun o a w ho hf _ => by unfold execOp; rw [ho]; simp only [hf.ev hx, hf.ev hy, Sem.run_bind, run_eqGuard_agg w .eql t _ _ xs ys hg, Result.andThen_ok, run_eql_struct, he]; simp⟩
theorem V.aneq {t u : TypeId} {x y : Operand} {xs ys : Array Value} {e : Bool} (hx : ev env x = some (.agg xs)) (hy : ev env y = some (.agg ys)) (hg : P.eqGuardType P.depth t = false) (he : ∀ w, (Op.equalIn 10000 t (.agg xs) (.agg ys)).run P w = .ok e w) : V P n S env (.binOp .neq t x y u) (.bool (!e)) :=
  ⟨fun o a w ho hf _ => by unfold execOp; rw [ho]; simp only [hf.ev hx, hf.ev hy, Sem.run_bind, run_eqGuard_agg w .neq t _ _ xs ys hg, Result.andThen_ok, run_neq_struct, he]; simp⟩
theorem run_part [Tys P] {t : TypeId} {k : TyK} (hk : tyk P t = some k) (ha : k.desc.agg = false) {xs : Array Value} {o : Nat} {v : Value} (hv : xs[o]? = some v) (w : World) : (part t xs o).run P w = .ok v w := by
  unfold part
  have := (tyk_ok hk).isAgg w
  rw [ha] at this
  simp [Sem.run_bind, this, hv]
theorem eqF_nil {d : Nat} {xs ys : Array Value} {w : World} : (Op.eqFields d xs ys []).run P w = .ok true w := rfl
theorem eqF_cons [Tys P] {d : Nat} {xs ys : Array Value} {w : World} {f : Field} {fs : List Field} {k : TyK} {a b : Value} {e r : Bool} (hn : f.name ≠ "_") (hk : tyk P f.type = some k) (ha : k.desc.agg = false) (hx : xs[f.offset]? = some a) (hy : ys[f.offset]? = some b)
    (he : (Op.equalIn d f.type a b).run P w = .ok e w) (hr : (Op.eqFields d xs ys fs).run P w = .ok r w) : (Op.eqFields d xs ys (f :: fs)).run P w = .ok (e && r) w := by
  unfold Op.eqFields
  rw [if_pos hn]
  simp only [Sem.run_bind, run_part hk ha hx, run_part hk ha hy, Result.andThen_ok, he]
  cases e <;> simp [hr]
theorem eqI [Tys P] {d : Nat} {w : World} {t : TypeId} {k : IntKind} {a b : Int} (h : P.underlying t = some (.int k)) : (Op.equalIn (d + 1) t (.int k a) (.int k b)).run P w = .ok (decide (a = b)) w := by
  rw [run_equalIn_int w d t k k a b h]
  congr 1
theorem eqS [Tys P] {d : Nat} {w : World} {t : TypeId} {a b : Bytes} (h : P.underlying t = some .string) : (Op.equalIn (d + 1) t (strV a) (strV b)).run P w = .ok (decide (a = b)) w := by
  rw [run_equalIn_string w d t _ _ h, bytes_eq]
end
theorem eq_Datum (a b : Datum) (w : World) : (Op.equalIn 10000 72 (.agg (enc a).toArray) (.agg (enc b).toArray)).run Tryz.prog w = .ok (decide (a = b)) w := by
  have hS : Tryz.prog.underlying 72 = some (.struct (Tryz.prog.fieldsOf 72)) := by kernel_rfl
  rw [show (10000 : Nat) = 9999 + 1 from rfl, run_equalIn_agg w 9999 72 _ _ hS Tryz.stoodInHeld72]
  simp only [Program.fieldsOf, Tryz.underlying72]
  have e : decide (a = b) = (decide (a.text = b.text) && (decide (a.n = b.n) && (decide (a.m = b.m) && true))) := by
    rw [Bool.eq_iff_iff]; cases a; cases b; simp
  rw [e]
  refine eqF_cons (by decide) rfl rfl rfl rfl (eqS Tryz.underlying9) ?_
  refine eqF_cons (by decide) rfl rfl rfl rfl (eqI Tryz.underlying3) ?_
  refine eqF_cons (by decide) rfl rfl rfl rfl (eqI Tryz.underlying3) ?_
  exact eqF_nil
theorem eq_Question (a b : Question) (w : World) : (Op.equalIn 10000 23 (.agg (enc a).toArray) (.agg (enc b).toArray)).run Tryz.prog w = .ok (decide (a = b)) w := by
  have hS : Tryz.prog.underlying 23 = some (.struct (Tryz.prog.fieldsOf 23)) := by kernel_rfl
  rw [show (10000 : Nat) = 9999 + 1 from rfl, run_equalIn_agg w 9999 23 _ _ hS Tryz.stoodInHeld23]
  simp only [Program.fieldsOf, Tryz.underlying23]
  have e : decide (a = b) = (decide (a.name = b.name) && (decide (a.typ = b.typ) && true)) := by
    rw [Bool.eq_iff_iff]; cases a; cases b; simp
  rw [e]
  refine eqF_cons (by decide) rfl rfl rfl rfl (eqS Tryz.underlying9) ?_
  refine eqF_cons (by decide) rfl rfl rfl rfl (eqI Tryz.underlying3) ?_
  exact eqF_nil
theorem eq_Sig (a b : Sig) (w : World) : (Op.equalIn 10000 111 (.agg (enc a).toArray) (.agg (enc b).toArray)).run Tryz.prog w = .ok (decide (a = b)) w := by
  have hS : Tryz.prog.underlying 111 = some (.struct (Tryz.prog.fieldsOf 111)) := by kernel_rfl
  rw [show (10000 : Nat) = 9999 + 1 from rfl, run_equalIn_agg w 9999 111 _ _ hS Tryz.stoodInHeld111]
  simp only [Program.fieldsOf, Tryz.underlying111]
  have e : decide (a = b) = (decide (a.zone = b.zone) && (decide (a.key = b.key) && (decide (a.alg = b.alg) && (decide (a.frm = b.frm) && (decide (a.til = b.til) && (decide (a.sum = b.sum) && true)))))) := by
    rw [Bool.eq_iff_iff]; cases a; cases b; simp
  rw [e]
  refine eqF_cons (by decide) rfl rfl rfl rfl (eqS Tryz.underlying9) ?_
  refine eqF_cons (by decide) rfl rfl rfl rfl (eqI Tryz.underlying3) ?_
  refine eqF_cons (by decide) rfl rfl rfl rfl (eqI Tryz.underlying3) ?_
  refine eqF_cons (by decide) rfl rfl rfl rfl (eqI Tryz.underlying3) ?_
  refine eqF_cons (by decide) rfl rfl rfl rfl (eqI Tryz.underlying3) ?_
  refine eqF_cons (by decide) rfl rfl rfl rfl (eqI Tryz.underlying109) ?_
  exact eqF_nil
end Go.Proofs.YtpnoabbdcakjkaaGreatDoor
