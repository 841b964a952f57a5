/- The engine: maps whose keys are structs: lookups that tell whether it is there, their length, maps in the heap that nobody writes; calls that only look. -/
import Derived.Test.YtpnoabbdcakjkaaGreatDoorQEngN
import Derived.Test.YtpnoabbdcakjkaaGreatDoorQEngB
namespace Go.Proofs.YtpnoabbdcakjkaaGreatDoor
set_option linter.unusedVariables false
set_option linter.unusedSimpArgs false
open Go Go.RowKit
open Enc (enc)
section
variable {P : Program} {n : FK} {w0 w w' : World} {H0 H H' : Hp} {Q : Exit → Act → World → Prop} {env : List (Nat × Value)} {L L' : List Loc} {ops rest : List Oper} {κ : Type} [DecidableEq κ] {mk : κ → Value} {kt : TypeId}
theorem run_mlookupOkG (K : KeyG P kt mk) {t e : TypeId} (ht : P.underlying t = some (.map kt e)) {z : Value} (a : κ) {l : List (κ × Value)} {w : World} (hz : (zeroValue e).run P w = .ok z w) {b : Nat} (hb : w.heap[b]? = some (mObj mk l)) : (Instr.lookup t (.map (some b)) (mk a) true).run P w = .ok (.tuple #[(aGet a l).getD z, .bool (aGet a l).isSome]) w := by
  have hg : (getObj b).run P w = .ok (mObj mk l) w := MapKept.run_getObj_map hb
  unfold Instr.lookup
  simp only [Sem.run_bind, run_underlying ht w, Result.andThen_ok, hg, mObj, Sem.run_pure, K.check, List.toList_toArray, K.find]
  unfold aGet
  cases aFind a l 0 with
  | none => simp [hz]
  | some p => obtain ⟨i, v⟩ := p; simp
theorem V.mlookupOkS [Tys P] {S : World → Prop} {t e : TypeId} {x y : Operand} {b : Nat} {k ke : TyK} {l : List (κ × Value)} {c : Value} {f : Bool} (a : κ) (hk : tyk P t = some k) (hd : k.desc = .map kt e) (hke : tyk P e = some ke) (K : KeyG P kt mk) (hx : ev env x = some (.map (some b))) (hy : ev env y = some (mk a))
    (hm : ∀ w, S w → w.heap[b]? = some (mObj mk l)) (hc : (aGet a l).getD ke.zero = c) (hf' : (aGet a l).isSome = f) : V P n S env (.lookup t x y true) (.tuple #[c, .bool f]) :=
  ⟨fun o a' w ho hf hs => by
    obtain ⟨d, hd1, hd2⟩ := (tyk_ok hk).und
    rw [hd] at hd2
    simp only [TyD.fits] at hd2
    subst hd2
    have := run_mlookupOkG K hd1 a ((tyk_ok hke).zeroRun w) (hm w hs)
    unfold execOp
    rw [ho]
    simp only [hf.ev hx, hf.ev hy, Sem.run_bind, this, hc, hf']
    rfl⟩
theorem V.mlookupOkG [Tys P] {t e : TypeId} {x y : Operand} {b : Nat} {k ke : TyK} {l : List (κ × Value)} {c : Value} {f : Bool} (a : κ) (hk : tyk P t = some k) (hd : k.desc = .map kt e) (hke : tyk P e = some ke) (K : KeyG P kt mk) (hx : ev env x = some (.map (some b))) (hy : ev env y = some (mk a))
    (hm : Loc.any b (mObj mk l) ∈ L) (hc : (aGet a l).getD ke.zero = c) (hf' : (aGet a l).isSome = f) : V P n (St w0 H0 H L) env (.lookup t x y true) (.tuple #[c, .bool f]) :=
  V.mlookupOkS a hk hd hke K hx hy (fun w hs => (hs.ok _ hm).2) hc hf'
/-- In a map that nobody writes any more. -/
theorem V.mlookupOkH [Tys P] {t e : TypeId} {x y : Operand} {b : Nat} {k ke : TyK} {l : List (κ × Value)} {c : Value} {f : Bool} (a : κ) (hk : tyk P t = some k) (hd : k.desc = .map kt e) (hke : tyk P e = some ke) (K : KeyG P kt mk) (hx : ev env x = some (.map (some b))) (hy : ev env y = some (mk a))
    (hm : H b = some (mObj mk l)) (hc : (aGet a l).getD ke.zero = c) (hf' : (aGet a l).isSome = f) : V P n (St w0 H0 H L) env (.lookup t x y true) (.tuple #[c, .bool f]) :=
  V.mlookupOkS a hk hd hke K hx hy (fun w hs => hs.sat _ _ hm) hc hf'
/-- A call of whose memory nothing is kept. -/
theorem X.callG {G : Type} {φ : G → Prop} {v : G → Value} {d : Nat} {f : FuncId} {args : Array Operand} {tys : Array TypeId} {ty : TypeId} {pos : String} {after : Array Edge} {g : Option (Nat × Bool)} {vs : List Value} (us : List Value)
    (hcall : ∀ (args : Array Value) (w : World), (callFunc f args).run P w = .ok (.enter f args) w) (hn : Nat.blt d n.n = true)
    (hargs : evs env args.toList = some vs) (he : vs = us) (hc : ∀ w, St w0 H0 H L w → Calls P f us.toArray w (fun e w' => ∃ g, φ g ∧ e = .returned (v g) ∧ Below w.heap.size w w')) :
    X P n w0 H0 env H L ⟨some d, .call { callee := .value (.func f), args := args, argTypes := tys }, ty, pos, after, g⟩ true (G := G) φ (fun g => (d, v g) :: env) (fun _ => H) (fun _ => L) := by
  subst he
  exact ⟨fun a w hf hs K Q hK => by
    unfold Oper.wp
    rw [run_call rfl (by rfl) (hf.evs hargs) hcall]
    have hc' : Calls P f (#[] ++ vs.toArray ++ #[]) w (fun e w' => ∃ g, φ g ∧ e = .returned (v g) ∧ Below w.heap.size w w') := by simpa using hc w hs
    refine Calls.mono hc' fun e w' ⟨g, hg, he, hb⟩ => ?_
    subst he
    exact hK g _ _ hg (fun _ => hb) (hf.put hn _) (hs.grow hb)⟩
end
def qV (q : Question) : Value := .agg (enc q).toArray
theorem checkS {P : Program} {t : TypeId} (h : P.underlying t = some .string) (e : Bool) (a : Bytes) (w : World) : (Instr.checkKey e 9999 t (strV a)).run P w = .ok () w := by
  unfold Instr.checkKey
  rw [Sem.run_bind, run_underlying h w]; rfl
theorem checkI {P : Program} {t : TypeId} (h : P.underlying t = some (.int .i64)) (e : Bool) (a : Int) (w : World) : (Instr.checkKey e 9999 t (intV a)).run P w = .ok () w := by
  unfold Instr.checkKey
  rw [Sem.run_bind, run_underlying h w]; rfl
theorem key_q : KeyG Tryz.prog 23 qV where
  find := run_findG (kd := .struct (Tryz.prog.fieldsOf 23)) (by kernel_rfl) (fun _ _ => rfl) (fun a b w => eq_Question a b w)
  check := fun e a w => by
    have hS : Tryz.prog.underlying 23 = some (.struct (Tryz.prog.fieldsOf 23)) := by kernel_rfl
    obtain ⟨a1, a2⟩ := a
    show (Instr.checkKey e 10000 23 (.agg #[strV a1, intV a2])).run Tryz.prog w = .ok () w
    rw [show (10000 : Nat) = 9999 + 1 from rfl, Instr.checkKey]
    simp only [Sem.run_bind, run_underlying hS, Result.andThen_ok]
    rw [← Array.forIn_toList]
    simp only [Program.fieldsOf, Tryz.underlying23, List.toList_toArray]
    have p1 : (part 9 #[strV a1, intV a2] 0).run Tryz.prog w = .ok (strV a1) w := run_part rfl rfl rfl w
    have p2 : (part 3 #[strV a1, intV a2] 1).run Tryz.prog w = .ok (intV a2) w := run_part rfl rfl rfl w
    simp [List.forIn_cons, Sem.run_bind, p1, p2, checkS Tryz.underlying9, checkI Tryz.underlying3]
  bits := fun a => by
    have hs : ∀ x : Bytes, Instr.sameBits 9999 (strV x) (strV x) = true := fun x => by
      simp only [Instr.sameBits]; rw [beq_toListBytes, bytes_eq]; simp
    have hi : ∀ x : Int, Instr.sameBits 9999 (intV x) (intV x) = true := fun x => by simp [Instr.sameBits]
    show ((2 : Nat) == 2 && (Instr.sameBits 9999 (strV a.name) (strV a.name) && (Instr.sameBits 9999 (intV a.typ) (intV a.typ) && true))) = true
    rw [hs, hi]; rfl
end Go.Proofs.YtpnoabbdcakjkaaGreatDoor
