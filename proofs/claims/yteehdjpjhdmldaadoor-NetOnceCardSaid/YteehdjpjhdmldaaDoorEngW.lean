/-
  The engine: more rules for values: remainders, cuts of strings and slices, elements of arrays, short literals.
-/
import Derived.Test.YteehdjpjhdmldaaDoorEngR
namespace Go.Proofs.YteehdjpjhdmldaaDoor
set_option linter.unusedVariables false
set_option linter.unusedSimpArgs false
open Go Go.RowKit

section
variable {P : Program} {n : FK} {w0 : World} {H0 H : Hp} {S : World → Prop} {env : List (Nat × Value)} {L : List Loc}
theorem V.rem {t u : TypeId} {x y : Operand} {i j : Int} (hx : ev env x = some (intV i)) (hy : ev env y = some (intV j)) (hj : 0 < j) : V P n S env (.binOp .rem t x y u) (intV (i.tmod j)) :=
  ⟨fun o a w ho hf _ => by
    unfold execOp; rw [ho]
    simp only [hf.ev hx, hf.ev hy, binOp, eqGuard, Op.intDiv]
    simp [show j ≠ 0 by omega]⟩
theorem V.mul {t u : TypeId} {x y : Operand} {i j : Int} (hx : ev env x = some (intV i)) (hy : ev env y = some (intV j)) (h : -9223372036854775808 ≤ i * j ∧ i * j ≤ 9223372036854775807) : V P n S env (.binOp .mul t x y u) (intV (i * j)) :=
  ⟨fun o a w ho hf _ => by unfold execOp; rw [ho]; simp [hf.ev hx, hf.ev hy, binOp, eqGuard, Op.intArith, wrap_i64 h]⟩
theorem V.sgtr {t u : TypeId} {x y : Operand} {i j : List UInt8} (hx : ev env x = some (strV i)) (hy : ev env y = some (strV j)) : V P n S env (.binOp .gtr t x y u) (.bool (!(Op.bytesLess i j || decide (i = j)))) :=
  ⟨fun o a w ho hf _ => by
    unfold execOp; rw [ho]; simp only [hf.ev hx, hf.ev hy, binOp, eqGuard, Op.stringOp, ByteArray.toList_mk]
    have : (i == j) = decide (i = j) := by rw [Bool.eq_iff_iff]; simp
    rw [← this]; simp⟩
theorem V.sadd {t u : TypeId} {x y : Operand} {i j : List UInt8} (hx : ev env x = some (strV i)) (hy : ev env y = some (strV j)) (h : i.length + j.length ≤ 9223372036854775807) : V P n S env (.binOp .add t x y u) (strV (i ++ j)) :=
  ⟨fun o a w ho hf _ => by
    have hs : ((⟨i.toArray⟩ : ByteArray).size + (⟨j.toArray⟩ : ByteArray).size) ≤ 9223372036854775807 := h
    have := run_string_add_sum (P := P) (w := w) ⟨i.toArray⟩ ⟨j.toArray⟩ hs
    have he : (⟨i.toArray⟩ : ByteArray) ++ (⟨j.toArray⟩ : ByteArray) = ⟨(i ++ j).toArray⟩ := by
      apply ByteArray.ext
      simp
    rw [he] at this
    unfold execOp; rw [ho]; simp only [hf.ev hx, hf.ev hy, binOp, eqGuard, Sem.run_bind]
    simp [this]⟩
theorem V.beql {t u : TypeId} {x y : Operand} {i j : Bool} (hk : P.underlying t = some .bool) (hx : ev env x = some (.bool i)) (hy : ev env y = some (.bool j)) : V P n S env (.binOp .eql t x y u) (.bool (i == j)) :=
  ⟨fun o a w ho hf _ => by unfold execOp; rw [ho]; simp [hf.ev hx, hf.ev hy, binOp, eqGuard, Op.equal, Op.maxDepth, run_equalIn_bool' w 9999 t i j hk]⟩
theorem V.sbyte [Tys P] {t : TypeId} {x y : Operand} {l : List UInt8} {i : Int} {ik : IntKind} {k : TyK} (hk : tyk P t = some k) (hd : k.desc = .str) (hx : ev env x = some (strV l)) (hy : ev env y = some (.int ik i)) (h0 : 0 ≤ i ∧ i < l.length) : V P n S env (.index t x y) (.int .u8 (l.getD i.toNat 0).toNat) :=
  V.sindex hk hd hx hy h0.1 (by rw [List.getD_eq_getElem?_getD, List.getElem?_eq_getElem (by omega)]; rfl)
theorem V.sbyteN [Tys P] {t : TypeId} {x y : Operand} {l : List UInt8} {j : Nat} {ik : IntKind} {k : TyK} (hk : tyk P t = some k) (hd : k.desc = .str) (hx : ev env x = some (strV l)) (hy : ev env y = some (.int ik (j : Int))) (h0 : j < l.length) : V P n S env (.index t x y) (.int .u8 (l.getD j 0).toNat) :=
  V.sbyte hk hd hx hy (by omega)
theorem V.sbyte0 [Tys P] {t : TypeId} {x y : Operand} {l : List UInt8} {ik : IntKind} {k : TyK} (hk : tyk P t = some k) (hd : k.desc = .str) (hx : ev env x = some (strV l)) (hy : ev env y = some (.int ik 0)) (h0 : 0 < l.length) : V P n S env (.index t x y) (.int .u8 (l.getD 0 0).toNat) :=
  V.sbyte hk hd hx hy (by omega)
/-- A bound of a cut that is there. -/
theorem run_bound {w : World} {k : IntKind} {i : Int} {j y : Nat} {c : BoundsCode} (hi : i = (j : Int)) (hj : j ≤ y) : (Instr.sliceBound (.int k i) y c).run P w = .ok j w := by
  subst hi
  simp [Instr.sliceBound, asIntOf, show (j : Int) ≤ y by omega]
/-- 's[a:b]', 's[a:]', 's[:b]'. -/
theorem V.scut [Tys P] {t : TypeId} {x y z : Operand} {l : List UInt8} {i k : Int} {a b : Nat} {K : TyK} {ik jk : IntKind} (hk : tyk P t = some K) (hd : K.desc = .str) (hx : ev env x = some (strV l)) (hy : ev env y = some (.int ik i)) (hz : ev env z = some (.int jk k)) (hi : i = (a : Int)) (hj : k = (b : Int)) (h1 : a ≤ b) (h2 : b ≤ l.length) :
    V P n S env (.slice t x (some y) (some z) none) (strV ((l.drop a).take (b - a))) :=
  ⟨fun o A w ho hf _ => by
    obtain ⟨d, hu, hf'⟩ := (tyk_ok hk).und
    rw [hd] at hf'
    simp only [TyD.fits] at hf'
    subst hf'
    have hs : (⟨l.toArray⟩ : ByteArray).size = l.length := rfl
    unfold execOp; rw [ho]
    simp [hf.ev hx, hf.ev hy, hf.ev hz, Instr.sliceAt, Instr.slice, Instr.sliceBounds, run_underlying hu, hs, run_bound hj h2, run_bound hi h1, ByteArray.extract_mk]⟩
theorem V.scutL [Tys P] {t : TypeId} {x y : Operand} {l : List UInt8} {i : Int} {a : Nat} {K : TyK} {ik : IntKind} (hk : tyk P t = some K) (hd : K.desc = .str) (hx : ev env x = some (strV l)) (hy : ev env y = some (.int ik i)) (hi : i = (a : Int)) (h1 : a ≤ l.length) :
    V P n S env (.slice t x (some y) none none) (strV (l.drop a)) :=
  ⟨fun o A w ho hf _ => by
    obtain ⟨d, hu, hf'⟩ := (tyk_ok hk).und
    rw [hd] at hf'
    simp only [TyD.fits] at hf'
    subst hf'
    have hs : (⟨l.toArray⟩ : ByteArray).size = l.length := rfl
    unfold execOp; rw [ho]
    simp [hf.ev hx, hf.ev hy, Instr.sliceAt, Instr.slice, Instr.sliceBounds, run_underlying hu, hs, run_bound hi h1, ByteArray.extract_mk]
    rw [List.take_of_length_le (by simp)]⟩
theorem V.scutR [Tys P] {t : TypeId} {x y : Operand} {l : List UInt8} {i : Int} {a : Nat} {K : TyK} {ik : IntKind} (hk : tyk P t = some K) (hd : K.desc = .str) (hx : ev env x = some (strV l)) (hy : ev env y = some (.int ik i)) (hi : i = (a : Int)) (h1 : a ≤ l.length) :
    V P n S env (.slice t x none (some y) none) (strV (l.take a)) :=
  ⟨fun o A w ho hf _ => by
    obtain ⟨d, hu, hf'⟩ := (tyk_ok hk).und
    rw [hd] at hf'
    simp only [TyD.fits] at hf'
    subst hf'
    have hs : (⟨l.toArray⟩ : ByteArray).size = l.length := rfl
    unfold execOp; rw [ho]
    simp [hf.ev hx, hf.ev hy, Instr.sliceAt, Instr.slice, Instr.sliceBounds, run_underlying hu, hs, run_bound hi h1, ByteArray.extract_mk]⟩
theorem V.scutLT [Tys P] {t : TypeId} {x y : Operand} {l : List UInt8} {i : Int} {K : TyK} {ik : IntKind} (hk : tyk P t = some K) (hd : K.desc = .str) (hx : ev env x = some (strV l)) (hy : ev env y = some (.int ik i)) (h1 : 0 ≤ i ∧ i ≤ l.length) :
    V P n S env (.slice t x (some y) none none) (strV (l.drop i.toNat)) := V.scutL hk hd hx hy (by omega) (by omega)
theorem V.scutRT [Tys P] {t : TypeId} {x y : Operand} {l : List UInt8} {i : Int} {K : TyK} {ik : IntKind} (hk : tyk P t = some K) (hd : K.desc = .str) (hx : ev env x = some (strV l)) (hy : ev env y = some (.int ik i)) (h1 : 0 ≤ i ∧ i ≤ l.length) :
    V P n S env (.slice t x none (some y) none) (strV (l.take i.toNat)) := V.scutR hk hd hx hy (by omega) (by omega)
theorem V.scutT [Tys P] {t : TypeId} {x y z : Operand} {l : List UInt8} {i j : Int} {K : TyK} {ik jk : IntKind} (hk : tyk P t = some K) (hd : K.desc = .str) (hx : ev env x = some (strV l)) (hy : ev env y = some (.int ik i)) (hz : ev env z = some (.int jk j)) (h1 : 0 ≤ i ∧ i ≤ j ∧ j ≤ l.length) :
    V P n S env (.slice t x (some y) (some z) none) (strV ((l.drop i.toNat).take (j.toNat - i.toNat))) := V.scut hk hd hx hy hz (by omega) (by omega) (by omega) (by omega)
/-- The address of an array's element. -/
theorem V.elemArr [Tys P] {t e : TypeId} {x y : Operand} {b o m j : Nat} {i : Int} {k ke : TyK} {ik : IntKind} (hk : tyk P t = some k) (hd : k.desc = .array m e) (hke : tyk P e = some ke) (hx : ev env x = some (.pointer (some ⟨b, o, none⟩))) (hy : ev env y = some (.int ik i)) (hi : i = (j : Int)) (h1 : j < m) :
    V P n S env (.indexAddr t x y) (.pointer (some ⟨b, o + j * ke.size, none⟩)) :=
  ⟨fun op a w ho hf _ => by
    obtain ⟨d, hu, hf'⟩ := (tyk_ok hk).und
    rw [hd] at hf'
    simp only [TyD.fits] at hf'
    subst hf'
    subst hi
    unfold execOp; rw [ho]
    simp [hf.ev hx, hf.ev hy, Instr.indexAt, asIntOf, run_underlying hu, h1, Instr.sureAddr, (tyk_ok hke).sizeOf w, Addr.add_mid]⟩
theorem V.elemArrI [Tys P] {t e : TypeId} {x y : Operand} {b o m : Nat} {i : Int} {k ke : TyK} {ik : IntKind} (hk : tyk P t = some k) (hd : k.desc = .array m e) (hke : tyk P e = some ke) (hx : ev env x = some (.pointer (some ⟨b, o, none⟩))) (hy : ev env y = some (.int ik i)) (h1 : 0 ≤ i ∧ i < m) :
    V P n S env (.indexAddr t x y) (.pointer (some ⟨b, o + i.toNat * ke.size, none⟩)) :=
  V.elemArr hk hd hke hx hy (by omega) (by omega)
/-! ### calls that read a block of the call's own -/
theorem St.satBlk {w : World} (hs : St w0 H0 H L w) {b : Nat} {T : TypeId} {cs : List Value} (hm : Loc.blk b T cs ∈ L) : Sat (H.put b (.cells cs.toArray T (0, 0))) w := fun k o hk => by
  unfold Hp.put at hk
  by_cases e : k = b
  · subst e; rw [if_pos rfl] at hk; cases hk; exact (hs.ok _ hm).2
  · rw [if_neg e] at hk; exact hs.sat k o hk
theorem Hp.put_cells {H : Hp} {b : Nat} {T : TypeId} {cs : List Value} : (H.put b (.cells cs.toArray T (0, 0))).cells b 0 cs := fun j v hj => by
  unfold Hp.cell Hp.put
  simp [hj]
theorem St.putLe {w : World} (hs : St w0 H0 H L w) {b : Nat} {T : TypeId} {cs : List Value} (hm : Loc.blk b T cs ∈ L) (o : Obj) : H.le (H.put b o) := Hp.put_le H o (hs.out _ hm b rfl)
theorem X.callR0 {d : Nat} {f : FuncId} {args : Array Operand} {tys : Array TypeId} {ty : TypeId} {pos : String} {after : Array Edge} {g : Option (Nat × Bool)} {vs : List Value} {v : Value}
    (hcall : ∀ (args : Array Value) (w : World), (callFunc f args).run P w = .ok (.enter f args) w) (hn : Nat.blt d n.n = true)
    (hargs : evs env args.toList = some vs) (hc : ∀ w, St w0 H0 H L w → Calls P f vs.toArray w (Ret w v)) :
    X P n w0 H0 env H L ⟨some d, .call { callee := .value (.func f), args := args, argTypes := tys }, ty, pos, after, g⟩ true (G := Unit) (fun _ => True) (fun _ => (d, v) :: env) (fun _ => H) (fun _ => L) :=
  ⟨fun a w hf hs K Q hK => by
    unfold Oper.wp
    rw [run_call rfl (by rfl) (hf.evs hargs) hcall]
    have hc' : Calls P f (#[] ++ vs.toArray ++ #[]) w (Ret w v) := by simpa using hc w hs
    refine Calls.mono hc' fun e w' ⟨he, hb⟩ => ?_
    subst he
    exact hK () _ _ trivial (fun _ => hb) (hf.put hn _) (hs.grow hb)⟩
/-- '[]int{..}' and the like: n parts of one cell each. -/
def nums : Nat → List Value → List (Nat × Value)
  | _, [] => []
  | i, v :: r => (i, v) :: nums (i + 1) r
def evOnes (env : List (Nat × Value)) : Nat → List (Nat × Operand) → Option (List Value)
  | _, [] => some []
  | i, (j, x) :: r =>
    match ev env x, evOnes env (i + 1) r, Nat.beq j i with
    | some v, some l, true => some (v :: l)
    | _, _, _ => none
theorem evOnes_evp {env : List (Nat × Value)} : ∀ {i : Nat} {parts : List (Nat × Operand)} {vs : List Value}, evOnes env i parts = some vs → evp env parts = some (nums i vs)
  | _, [], vs, h => by simp [evOnes] at h; subst h; rfl
  | i, (j, x) :: r, vs, h => by
    unfold evOnes at h
    cases h1 : ev env x with
    | none => rw [h1] at h; cases h
    | some v =>
      cases h2 : evOnes env (i + 1) r with
      | none => rw [h1, h2] at h; cases h
      | some l =>
        cases h3 : Nat.beq j i with
        | false => rw [h1, h2, h3] at h; cases h
        | true =>
          rw [h1, h2, h3] at h
          simp at h
          subst h
          have := Nat.eq_of_beq_eq_true h3
          subst this
          simp [evp, h1, evOnes_evp h2, nums]
theorem fill_ones : ∀ (vs : List Value) (i : Nat) (cs pre : List Value), (∀ v ∈ vs, v.cells.toList = [v]) → cs.length = i + vs.length → cs.take i = pre → fillL (fun i => some (i, 1)) cs (nums i vs) = some (pre ++ vs)
  | [], i, cs, pre, _, hl, hp => by
    simp only [nums, fillL, List.append_nil]
    rw [← hp, List.take_of_length_le (by simp at hl; omega)]
  | v :: vs, i, cs, pre, hv, hl, hp => by
    simp only [List.length_cons] at hl
    simp only [nums, fillL]
    rw [hv v (by simp)]
    rw [show (Nat.beq [v].length 1 && Nat.ble (i + 1) cs.length) = true by simp; omega]
    simp only [cond_true, putCells]
    rw [fill_ones vs (i + 1) (cs.set i v) (pre ++ [v]) (fun u hu => hv u (by simp [hu])) (by simp; omega) ?_]
    · simp
    · rw [List.take_succ_eq_append_getElem (by simp; omega), List.take_set_of_le (Nat.le_refl _), hp]
      simp
def one1 : Value → Bool
  | .agg _ => false
  | _ => true
theorem one1_cells {v : Value} (h : one1 v = true) : v.cells.toList = [v] := by
  cases v <;> first | rfl | cases h
theorem X.buildOnes [Tys P] {d : Nat} {t e ty m : Nat} {parts : Array (Nat × Operand)} {pos : String} {after : Array Edge} {g : Option (Nat × Bool)} {k ke : TyK} {vs : List Value} (hn : Nat.blt d n.n = true) (hk : tyk P t = some k) (hd : k.desc = .slice e) (hke : tyk P e = some ke) (h1 : ke.size = 1) (hp' : evOnes env 0 parts.toList = some vs)
    (hv' : vs.all one1 = true) (hm : vs.length = m) (hsm : Nat.ble m 16777216 = true) :
    X P n w0 H0 env H L ⟨some d, .buildSlice t m parts, ty, pos, after, g⟩ true (G := Nat) (fun _ => True) (fun b => (d, .slice (some ⟨b, 0, none⟩) m m) :: env) (fun _ => H) (fun b => .blk b e vs :: L) :=
  ⟨fun a w hf hs K Q hK => by
    have hp := evOnes_evp hp'
    have hv : ∀ v ∈ vs, v.cells.toList = [v] := fun v hv => one1_cells (List.all_eq_true.1 hv' v hv)
    obtain ⟨dd, hu, hf'⟩ := (tyk_ok hk).und
    rw [hd] at hf'
    simp only [TyD.fits] at hf'
    subst hf'
    have hsm' := Nat.le_of_ble_eq_true hsm
    have hparts : parts.map (fun (p : Nat × Operand) => (p.1, a.eval p.2)) = (nums 0 vs).toArray := by
      apply Array.toList_inj.1
      simpa using hf.evp hp
    unfold Oper.wp
    have hfill : ∀ (zs : Array Value), zs.size = m → Instr.fill (fun i => some (i, 1)) zs (nums 0 vs) = some vs.toArray := by
      intro zs hz
      have hz' : zs = zs.toList.toArray := by simp
      rw [hz']
      apply fill_eq
      rw [fill_ones vs 0 zs.toList [] hv (by simp [hz, hm]) (by simp)]
      simp
    have : (execOp a.eval ⟨some d, .buildSlice t m parts, ty, pos, after, g⟩).run P w = .ok (.value (.slice (some ⟨w.heap.size, 0, none⟩) m m)) (w.alloc (.cells vs.toArray e)) := by
      unfold execOp
      simp only [Instr.buildSlice, Sem.run_bind, run_underlying hu, Result.andThen_ok, (tyk_ok hke).sizeOf w, h1, Nat.mul_one, hparts]
      rw [if_neg (by omega)]
      by_cases h0 : m = 0
      · rw [if_pos h0]
        simp only [Sem.run_bind, Sem.run_pure, Result.andThen_ok]
        have := hfill ((Array.range m).map (fun x => (#[] : Array Value)[x % (#[] : Array Value).size]!)) (by simp)
        rw [this]
        simp [newRow, newObj]
        rfl
      · rw [if_neg h0]
        simp only [Sem.run_bind, (tyk_ok hke).zeroRun w, Result.andThen_ok, Sem.run_pure]
        have := hfill ((Array.range m).map (fun x => ke.zero.cells[x % ke.zero.cells.size]!)) (by simp)
        rw [this]
        simp [newRow, newObj]
        rfl
    rw [this]
    exact hK _ _ _ trivial (fun _ => (Below.refl _ _).alloc (Nat.le_refl _) _) (hf.put hn _) (hs.blk e vs)⟩
end
end Go.Proofs.YteehdjpjhdmldaaDoor
