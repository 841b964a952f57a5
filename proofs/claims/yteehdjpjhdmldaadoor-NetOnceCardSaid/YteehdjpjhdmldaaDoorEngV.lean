/-
  The engine's rules for operations that yield a value and leave the world: copies, tests, arithmetic, fields, elements, strings.
-/
import Derived.Test.YteehdjpjhdmldaaDoorEng
namespace Go.Proofs.YteehdjpjhdmldaaDoor
set_option linter.unusedVariables false
set_option linter.unusedSimpArgs false
open Go Go.RowKit

/-! ### What is known of a type -/
inductive TyD where
  | plain
  | str
  | int (k : IntKind)
  | slice (e : TypeId)
  | struct (fs : List (Nat × Nat × TypeId))
  | map (k e : TypeId)
  | array (n : Nat) (e : TypeId)
structure TyK where
  size : Nat
  bytes : Nat
  zero : Value
  desc : TyD
def TyD.agg : TyD → Bool
  | .struct _ | .array _ _ => true
  | _ => false
def TyD.fits (P : Program) : TyD → TypeDesc → Prop
  | .plain, d => d.isRow = false
  | .str, d => d = .string
  | .int k, d => d = .int k
  | .slice e, d => d = .slice e
  | .struct fs, d => ∃ fields, d = .struct fields ∧ fields.toList.map (fun f => (f.offset, P.cellsOf f.type, f.type)) = fs
  | .map k e, d => d = .map k e
  | .array n e, d => d = .array n e
structure TyOk (P : Program) (t : TypeId) (k : TyK) : Prop where
  info : (P.info? t).map (fun i => (i.size, i.bytes, i.zero)) = some (k.size, k.bytes, some k.zero)
  und : ∃ d, P.underlying t = some d ∧ k.desc.fits P d
def lookT : TypeId → List (TypeId × TyK) → Option TyK
  | _, [] => none
  | t, (s, v) :: r => bif Nat.beq s t then some v else lookT t r
def AllT (P : Program) : List (TypeId × TyK) → Prop
  | [] => True
  | p :: r => TyOk P p.1 p.2 ∧ AllT P r
class Tys (P : Program) where
  tab : List (TypeId × TyK)
  ok : AllT P tab
theorem allT_look {P : Program} {l : List (TypeId × TyK)} (h : AllT P l) {t : TypeId} {k : TyK} (hk : lookT t l = some k) : TyOk P t k := by
  induction l with
  | nil => cases hk
  | cons p r ih =>
    obtain ⟨s, v⟩ := p
    simp only [lookT] at hk
    by_cases e : s = t
    · subst e
      simp at hk
      subst hk
      exact h.1
    · rw [beq_no e] at hk
      exact ih h.2 hk
def tyk (P : Program) [Tys P] (t : TypeId) : Option TyK := lookT t (Tys.tab P)
theorem tyk_ok {P : Program} [Tys P] {t : TypeId} {k : TyK} (h : tyk P t = some k) : TyOk P t k := allT_look Tys.ok h
theorem TyOk.get {P : Program} {t : TypeId} {k : TyK} (h : TyOk P t k) : ∃ i, P.info? t = some i ∧ i.size = k.size ∧ i.bytes = k.bytes ∧ i.zero = some k.zero := by
  have := h.info
  cases hi : P.info? t with
  | none => rw [hi] at this; cases this
  | some i => rw [hi] at this; simp at this; exact ⟨i, rfl, this.1, this.2.1, this.2.2⟩
theorem TyOk.isAgg {P : Program} {t : TypeId} {k : TyK} (h : TyOk P t k) (w : World) : (isAgg t).run P w = .ok k.desc.agg w := by
  obtain ⟨d, hd, hf⟩ := h.und
  unfold Go.isAgg
  rw [Sem.run_bind, run_underlying hd w]
  cases hk : k.desc <;> rw [hk] at hf <;> simp only [TyD.fits] at hf
  case plain => cases d <;> simp_all [TyD.agg]
  case struct fs => obtain ⟨f, rfl, _⟩ := hf; simp [TyD.agg]
  all_goals (subst hf; simp [TyD.agg])
theorem TyOk.sizeOf {P : Program} {t : TypeId} {k : TyK} (h : TyOk P t k) (w : World) : (sizeOf t).run P w = .ok k.size w := by
  obtain ⟨i, hi, h1, _⟩ := h.get
  simp [Go.sizeOf, typeInfo, hi, h1]
theorem sizeOf_of_cells {P : Program} {t : TypeId} {s : Nat} (h : P.cellsOf t = s) (h0 : s ≠ 0) (w : World) : (sizeOf t).run P w = .ok s w := by
  unfold Program.cellsOf at h
  cases hi : P.info? t with
  | none => rw [hi] at h; simp at h; omega
  | some i => rw [hi] at h; simp at h; simp [Go.sizeOf, typeInfo, hi, h]

abbrev strV (l : List UInt8) : Value := .string ⟨l.toArray⟩
abbrev intV (n : Int) : Value := .int .i64 n

section
variable {P : Program} {n : FK} {w0 : World} {H0 H : Hp} {S : World → Prop} {env : List (Nat × Value)} {L : List Loc}
/-- A value that does not ask the world. -/
theorem V.plain {op : Op} {v : Value} (h : ∀ (o : Oper) a, o.op = op → Fr n env a → execOp a.eval o = Pure.pure (Next.value v)) : V P n S env op v :=
  ⟨fun o a w ho hf _ => by rw [h o a ho hf]; rfl⟩
theorem V.move {x : Operand} {v : Value} (hx : ev env x = some v) : V P n S env (.move x) v :=
  V.plain fun o a ho hf => by unfold execOp; rw [ho]; simp only [hf.ev hx]
theorem V.assign {x : Operand} {v : Value} (hx : ev env x = some v) : V P n S env (.assign x) v :=
  V.plain fun o a ho hf => by unfold execOp; rw [ho]; simp only [hf.ev hx]
theorem V.pick_true {c x y : Operand} {v : Value} (hc : ev env c = some (.bool true)) (hx : ev env x = some v) : V P n S env (.pick c x y) v :=
  ⟨fun o a w ho hf _ => by unfold execOp; rw [ho]; simp [hf.ev hc, hf.ev hx, asBool]⟩
theorem V.pick_false {c x y : Operand} {v : Value} (hc : ev env c = some (.bool false)) (hy : ev env y = some v) : V P n S env (.pick c x y) v :=
  ⟨fun o a w ho hf _ => by unfold execOp; rw [ho]; simp [hf.ev hc, hf.ev hy, asBool]⟩
theorem V.not {t : TypeId} {x : Operand} {e : Bool} (hx : ev env x = some (.bool e)) : V P n S env (.unOp .not t x) (.bool (!e)) :=
  ⟨fun o a w ho hf _ => by unfold execOp; rw [ho]; simp [hf.ev hx, Op.unary]⟩
theorem V.extract {x : Operand} {i : Nat} {vs : Array Value} {v : Value} (hx : ev env x = some (.tuple vs)) (hi : vs[i]? = some v) : V P n S env (.extract x i) v :=
  ⟨fun o a w ho hf _ => by unfold execOp; rw [ho]; simp [hf.ev hx, Instr.extract, hi]⟩
theorem V.makeFunc {fn : Fn} {first captured : Array Operand} {vs us : List Value} (hf1 : first.toList.map (ev env) = vs.map some) (hf2 : captured.toList.map (ev env) = us.map some) : V P n S env (.makeFunc fn first captured) (.func fn vs.toArray us.toArray) :=
  ⟨fun o a w ho hf _ => by
    have key : ∀ (xs : Array Operand) (zs : List Value), xs.toList.map (Go.Proofs.YteehdjpjhdmldaaDoor.ev env) = zs.map some → xs.map a.eval = zs.toArray := by
      intro xs zs h
      apply Array.toList_inj.1
      rw [Array.toList_map]
      generalize xs.toList = l at h
      induction l generalizing zs with
      | nil => cases zs <;> simp_all
      | cons x l ih =>
        cases zs with
        | nil => simp at h
        | cons z zs =>
          simp only [List.map_cons, List.cons.injEq] at h
          simp only [List.map_cons, hf.ev h.1]
          have := ih zs h.2
          simp at this ⊢
          exact this
    unfold execOp; rw [ho]; simp [Instr.makeFunc, key _ _ hf1, key _ _ hf2]⟩

/-! ### int -/
theorem wrap_i64 {x : Int} (h : -9223372036854775808 ≤ x ∧ x ≤ 9223372036854775807) : IntKind.i64.wrap x = x := IntWalk.i64_in _ h
theorem V.add {t u : TypeId} {x y : Operand} {i j : Int} (hx : ev env x = some (intV i)) (hy : ev env y = some (intV j)) (h : -9223372036854775808 ≤ i + j ∧ i + j ≤ 9223372036854775807) : V P n S env (.binOp .add t x y u) (intV (i + j)) :=
  ⟨fun o a w ho hf _ => by unfold execOp; rw [ho]; simp [hf.ev hx, hf.ev hy, binOp, eqGuard, Op.intArith, wrap_i64 h]⟩
theorem V.sub {t u : TypeId} {x y : Operand} {i j : Int} (hx : ev env x = some (intV i)) (hy : ev env y = some (intV j)) (h : -9223372036854775808 ≤ i - j ∧ i - j ≤ 9223372036854775807) : V P n S env (.binOp .sub t x y u) (intV (i - j)) :=
  ⟨fun o a w ho hf _ => by unfold execOp; rw [ho]; simp [hf.ev hx, hf.ev hy, binOp, eqGuard, Op.intArith, wrap_i64 h]⟩
theorem V.lss {k : IntKind} {t u : TypeId} {x y : Operand} {i j : Int} (hx : ev env x = some (.int k i)) (hy : ev env y = some (.int k j)) : V P n S env (.binOp .lss t x y u) (.bool (decide (i < j))) :=
  ⟨fun o a w ho hf _ => by unfold execOp; rw [ho]; simp [hf.ev hx, hf.ev hy, binOp, eqGuard, Op.intCmp]⟩
theorem V.leq {k : IntKind} {t u : TypeId} {x y : Operand} {i j : Int} (hx : ev env x = some (.int k i)) (hy : ev env y = some (.int k j)) : V P n S env (.binOp .leq t x y u) (.bool (decide (i ≤ j))) :=
  ⟨fun o a w ho hf _ => by unfold execOp; rw [ho]; simp [hf.ev hx, hf.ev hy, binOp, eqGuard, Op.intCmp]⟩
theorem V.gtr {k : IntKind} {t u : TypeId} {x y : Operand} {i j : Int} (hx : ev env x = some (.int k i)) (hy : ev env y = some (.int k j)) : V P n S env (.binOp .gtr t x y u) (.bool (decide (j < i))) :=
  ⟨fun o a w ho hf _ => by unfold execOp; rw [ho]; simp [hf.ev hx, hf.ev hy, binOp, eqGuard, Op.intCmp]⟩
theorem V.geq {k : IntKind} {t u : TypeId} {x y : Operand} {i j : Int} (hx : ev env x = some (.int k i)) (hy : ev env y = some (.int k j)) : V P n S env (.binOp .geq t x y u) (.bool (decide (j ≤ i))) :=
  ⟨fun o a w ho hf _ => by unfold execOp; rw [ho]; simp [hf.ev hx, hf.ev hy, binOp, eqGuard, Op.intCmp]⟩
theorem V.eql {k : IntKind} {t u : TypeId} {x y : Operand} {i j : Int} (hx : ev env x = some (.int k i)) (hy : ev env y = some (.int k j)) : V P n S env (.binOp .eql t x y u) (.bool (decide (i = j))) :=
  ⟨fun o a w ho hf _ => by unfold execOp; rw [ho]; simp [hf.ev hx, hf.ev hy, binOp, eqGuard, Op.intCmp]; rfl⟩
theorem V.neq {k : IntKind} {t u : TypeId} {x y : Operand} {i j : Int} (hx : ev env x = some (.int k i)) (hy : ev env y = some (.int k j)) : V P n S env (.binOp .neq t x y u) (.bool (!decide (i = j))) :=
  ⟨fun o a w ho hf _ => by unfold execOp; rw [ho]; simp [hf.ev hx, hf.ev hy, binOp, eqGuard, Op.intCmp]; rfl⟩

/-! ### strings -/
theorem bytes_eq (a b : List UInt8) : ((⟨a.toArray⟩ : ByteArray).toList == (⟨b.toArray⟩ : ByteArray).toList) = decide (a = b) := by
  rw [ByteArray.toList_eq, ByteArray.toList_eq, Bool.eq_iff_iff]; simp
theorem V.seql {t u : TypeId} {x y : Operand} {i j : List UInt8} (hx : ev env x = some (strV i)) (hy : ev env y = some (strV j)) : V P n S env (.binOp .eql t x y u) (.bool (decide (i = j))) :=
  ⟨fun o a w ho hf _ => by unfold execOp; rw [ho]; simp only [hf.ev hx, hf.ev hy, binOp, eqGuard, Op.stringOp, bytes_eq]; simp⟩
theorem V.sneq {t u : TypeId} {x y : Operand} {i j : List UInt8} (hx : ev env x = some (strV i)) (hy : ev env y = some (strV j)) : V P n S env (.binOp .neq t x y u) (.bool (!decide (i = j))) :=
  ⟨fun o a w ho hf _ => by unfold execOp; rw [ho]; simp only [hf.ev hx, hf.ev hy, binOp, eqGuard, Op.stringOp, bytes_eq]; simp⟩
theorem V.slss {t u : TypeId} {x y : Operand} {i j : List UInt8} (hx : ev env x = some (strV i)) (hy : ev env y = some (strV j)) : V P n S env (.binOp .lss t x y u) (.bool (Op.bytesLess i j)) :=
  ⟨fun o a w ho hf _ => by unfold execOp; rw [ho]; simp only [hf.ev hx, hf.ev hy, binOp, eqGuard, Op.stringOp, ByteArray.toList_mk]; simp⟩
theorem V.slen [Tys P] {t : TypeId} {tys : Array TypeId} {x : Operand} {l : List UInt8} {k : TyK} (ht : tys[0]? = some t) (hk : tyk P t = some k) (hd : k.desc = .str) (hx : ev env x = some (strV l)) : V P n S env (.call { callee := .builtin .len, args := #[x], argTypes := tys }) (intV l.length) :=
  ⟨fun o a w ho hf _ => by
    obtain ⟨d, hu, hf'⟩ := (tyk_ok hk).und
    rw [hd] at hf'
    simp only [TyD.fits] at hf'
    subst hf'
    unfold execOp; rw [ho]
    simp [hf.ev hx, resolve, invoke, builtin, Builtin.len_, ht, run_underlying hu, goInt]
    rfl⟩
theorem V.len [Tys P] {t e : TypeId} {tys : Array TypeId} {x : Operand} {A : Option Addr} {m c : Nat} {k : TyK} (ht : tys[0]? = some t) (hk : tyk P t = some k) (hd : k.desc = .slice e) (hx : ev env x = some (.slice A m c)) : V P n S env (.call { callee := .builtin .len, args := #[x], argTypes := tys }) (intV m) :=
  ⟨fun o a w ho hf _ => by
    obtain ⟨d, hu, hf'⟩ := (tyk_ok hk).und
    rw [hd] at hf'
    simp only [TyD.fits] at hf'
    subst hf'
    unfold execOp; rw [ho]
    simp [hf.ev hx, resolve, invoke, builtin, Builtin.len_, ht, run_underlying hu, goInt]⟩
theorem V.cap [Tys P] {t e : TypeId} {tys : Array TypeId} {x : Operand} {A : Option Addr} {m c : Nat} {k : TyK} (ht : tys[0]? = some t) (hk : tyk P t = some k) (hd : k.desc = .slice e) (hx : ev env x = some (.slice A m c)) : V P n S env (.call { callee := .builtin .cap, args := #[x], argTypes := tys }) (intV c) :=
  ⟨fun o a w ho hf _ => by
    obtain ⟨d, hu, hf'⟩ := (tyk_ok hk).und
    rw [hd] at hf'
    simp only [TyD.fits] at hf'
    subst hf'
    unfold execOp; rw [ho]
    simp [hf.ev hx, resolve, invoke, builtin, Builtin.cap_, ht, run_underlying hu, goInt]⟩
theorem V.sindex [Tys P] {t : TypeId} {x y : Operand} {l : List UInt8} {i : Int} {ik : IntKind} {k : TyK} {c : UInt8} (hk : tyk P t = some k) (hd : k.desc = .str) (hx : ev env x = some (strV l)) (hy : ev env y = some (.int ik i)) (h0 : 0 ≤ i) (hc : l[i.toNat]? = some c) : V P n S env (.index t x y) (.int .u8 c.toNat) :=
  ⟨fun o a w ho hf _ => by
    obtain ⟨d, hu, hf'⟩ := (tyk_ok hk).und
    rw [hd] at hf'
    simp only [TyD.fits] at hf'
    subst hf'
    have hc' : (⟨l.toArray⟩ : ByteArray)[i.toNat]? = some c := by
      show (if h : i.toNat < (⟨l.toArray⟩ : ByteArray).size then some _ else none) = _
      have hlt := (List.getElem?_eq_some_iff.1 hc)
      obtain ⟨h1, h2⟩ := hlt
      rw [dif_pos (by simpa [ByteArray.size] using h1)]
      exact congrArg some h2
    unfold execOp; rw [ho]
    simp [hf.ev hx, hf.ev hy, Instr.index, asIntOf, run_underlying hu, h0, hc']⟩

/-! ### memory -/
theorem V.fieldAddr [Tys P] {s : TypeId} {x : Operand} {f : Nat} {b o off sz : Nat} {ft : TypeId} {k : TyK} {fs : List (Nat × Nat × TypeId)} (hk : tyk P s = some k) (hd : k.desc = .struct fs) (hf : fs[f]? = some (off, sz, ft)) (h0 : Nat.beq sz 0 = false)
    (hx : ev env x = some (.pointer (some ⟨b, o, none⟩))) : V P n S env (.fieldAddr s x f) (.pointer (some ⟨b, o + off, none⟩)) :=
  ⟨fun op a w ho hfr _ => by
    obtain ⟨d, hu, hf'⟩ := (tyk_ok hk).und
    rw [hd] at hf'
    obtain ⟨fields, rfl, hmap⟩ := hf'
    have h0' : sz ≠ 0 := fun e => by subst e; simp at h0
    have hff : (fields.toList.map (fun f => (f.offset, P.cellsOf f.type, f.type)))[f]? = some (off, sz, ft) := by rw [hmap]; exact hf
    rw [List.getElem?_map] at hff
    cases hg : fields.toList[f]? with
    | none => rw [hg] at hff; cases hff
    | some fld =>
      rw [hg] at hff
      simp at hff
      obtain ⟨e1, e2, e3⟩ := hff
      have hg' : fields[f]? = some fld := by simpa using hg
      unfold execOp; rw [ho]
      simp [hfr.ev hx, Instr.fieldAt, run_underlying hu, hg', Instr.sureAddr, fieldPlace, sizeOf_of_cells e2 h0' w, h0', e1, Addr.add_mid]⟩
theorem run_load_cell [Tys P] {t : TypeId} {k : TyK} (hk : tyk P t = some k) (ha : k.desc.agg = false) {w : World} {b o : Nat} {v : Value} (hc : w.cell? ⟨b, o, none⟩ = some v) : (Instr.loadAt t (.pointer (some ⟨b, o, none⟩))).run P w = .ok v w := by
  simp only [Instr.loadAt, Instr.sureAddr, Sem.run_bind, Sem.run_pure, Result.andThen_ok, loadVar, (tyk_ok hk).isAgg w, ha]
  simp [load, Sem.run, hc]
theorem run_load_row [Tys P] {t : TypeId} {k : TyK} (hk : tyk P t = some k) (ha : k.desc.agg = true) {w : World} {b o : Nat} {cs : List Value} (hl : cs.length = k.size) (hc : ∀ j v, cs[j]? = some v → w.cell? ⟨b, o + j, none⟩ = some v) : (Instr.loadAt t (.pointer (some ⟨b, o, none⟩))).run P w = .ok (.agg cs.toArray) w := by
  have hl' : (loadCells ⟨b, o, none⟩ cs.length).run P w = .ok cs.toArray w :=
    run_loadCells_list (P := P) w ⟨b, o, none⟩ cs (fun j v hv => by rw [Addr.add_mid]; exact hc j v hv)
  rw [hl] at hl'
  simp only [Instr.loadAt, Instr.sureAddr, Sem.run_bind, Sem.run_pure, Result.andThen_ok, loadVar, (tyk_ok hk).isAgg w, ha, if_true, (tyk_ok hk).sizeOf w, hl']
theorem St.blk_cell {w : World} (hs : St w0 H0 H L w) {b : Nat} {T : TypeId} {cs : List Value} (hm : Loc.blk b T cs ∈ L) {o : Nat} {v : Value} (hv : cs[o]? = some v) : w.cell? ⟨b, o, none⟩ = some v := by
  have := (hs.ok _ hm).2
  unfold World.cell?
  simp [this, hv]
/-- A load out of a block of the call's own: one cell. -/
theorem V.load_loc [Tys P] {t : TypeId} {x : Operand} {b o : Nat} {T : TypeId} {cs : List Value} {k : TyK} {v : Value} (hk : tyk P t = some k) (ha : k.desc.agg = false) (hx : ev env x = some (.pointer (some ⟨b, o, none⟩))) (hm : Loc.blk b T cs ∈ L) (hv : cs[o]? = some v) :
    V P n (St w0 H0 H L) env (.load t x) v :=
  ⟨fun op a w ho hf hs => by
    unfold execOp; rw [ho]; simp only [hf.ev hx, Sem.run_bind, run_load_cell hk ha (hs.blk_cell hm hv)]; rfl⟩
/-- A load out of a block of the call's own: a struct. -/
theorem V.load_loc_row [Tys P] {t : TypeId} {x : Operand} {b o : Nat} {T : TypeId} {cs vs : List Value} {k : TyK} (hk : tyk P t = some k) (ha : k.desc.agg = true) (hx : ev env x = some (.pointer (some ⟨b, o, none⟩))) (hm : Loc.blk b T cs ∈ L) (hv : (cs.drop o).take k.size = vs) (hl : vs.length = k.size) :
    V P n (St w0 H0 H L) env (.load t x) (.agg vs.toArray) :=
  ⟨fun op a w ho hf hs => by
    unfold execOp; rw [ho]
    have : (Instr.loadAt t (.pointer (some ⟨b, o, none⟩))).run P w = .ok (.agg vs.toArray) w := run_load_row hk ha hl fun j v hj => by
      refine hs.blk_cell hm ?_
      rw [← hv, List.getElem?_take] at hj
      by_cases hjk : j < k.size
      · rw [if_pos hjk, List.getElem?_drop] at hj; exact hj
      · rw [if_neg hjk] at hj; cases hj
    simp only [hf.ev hx, Sem.run_bind, this]; rfl⟩
/-- A load out of the heap that nobody writes. -/
theorem V.load_H [Tys P] {t : TypeId} {x : Operand} {b o : Nat} {k : TyK} {v : Value} (hk : tyk P t = some k) (ha : k.desc.agg = false) (hx : ev env x = some (.pointer (some ⟨b, o, none⟩))) (hv : H.cell b o = some v) : V P n (St w0 H0 H L) env (.load t x) v :=
  ⟨fun op a w ho hf hs => by
    unfold execOp; rw [ho]; simp only [hf.ev hx, Sem.run_bind, run_load_cell hk ha (hs.sat.cell hv)]; rfl⟩
theorem V.load_H_row [Tys P] {t : TypeId} {x : Operand} {b o : Nat} {k : TyK} {vs : List Value} (hk : tyk P t = some k) (ha : k.desc.agg = true) (hx : ev env x = some (.pointer (some ⟨b, o, none⟩))) (hv : H.cells b o vs) (hl : vs.length = k.size) : V P n (St w0 H0 H L) env (.load t x) (.agg vs.toArray) :=
  ⟨fun op a w ho hf hs => by
    unfold execOp; rw [ho]; simp only [hf.ev hx, Sem.run_bind, run_load_row hk ha hl (fun j v hj => hs.sat.cell (hv j v hj))]; rfl⟩
/-- The address of an element. -/
theorem V.indexAddr [Tys P] {t e : TypeId} {x y : Operand} {b o m c : Nat} {i : Int} {k ke : TyK} {ik : IntKind} (hk : tyk P t = some k) (hd : k.desc = .slice e) (hke : tyk P e = some ke) (hx : ev env x = some (.slice (some ⟨b, o, none⟩) m c)) (hy : ev env y = some (.int ik i)) (h0 : 0 ≤ i) (h1 : i < m) :
    V P n S env (.indexAddr t x y) (.pointer (some ⟨b, o + i.toNat * ke.size, none⟩)) :=
  ⟨fun op a w ho hf hs => by
    obtain ⟨d, hu, hf'⟩ := (tyk_ok hk).und
    rw [hd] at hf'
    simp only [TyD.fits] at hf'
    subst hf'
    unfold execOp; rw [ho]
    simp [hf.ev hx, hf.ev hy, Instr.indexAt, asIntOf, run_underlying hu, h0, h1, (tyk_ok hke).sizeOf w, Addr.add_mid]⟩
end
end Go.Proofs.YteehdjpjhdmldaaDoor
