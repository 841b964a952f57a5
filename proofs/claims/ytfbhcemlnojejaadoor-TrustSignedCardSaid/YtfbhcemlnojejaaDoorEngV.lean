/-
  The engine's rules for operations that yield a value and leave the world: copies, tests, arithmetic, fields, elements, strings.
-/
import Derived.Test.YtfbhcemlnojejaaDoorEng
namespace Go.Proofs.YtfbhcemlnojejaaDoor
set_option linter.unusedVariables false
set_option linter.unusedSimpArgs false
open Go Go.RowKit

/-! ### What is known of a type -/
inductive TyD where
  | plain
  | str
  | int (k : IntKind)
  | slice (e : TypeId)
  | struct (fs : List (Nat × Nat × TypeId))
  | map (k e : TypeId)
  | array (n : Nat) (e : TypeId)
structure TyK where
  size : Nat
  bytes : Nat
  zero : Value
  desc : TyD
def TyD.agg : TyD → Bool
  | .struct _ | .array _ _ => true
  | _ => false
def TyD.fits (P : Program) : TyD → TypeDesc → Prop
  | .plain, d => d.isRow = false
  | .str, d => d = .string
  | .int k, d => d = .int k
  | .slice e, d => d = .slice e
  | .struct fs, d => ∃ fields, d = .struct fields ∧ fields.toList.map (fun f => (f.offset, P.cellsOf f.type, f.type)) = fs
  | .map k e, d => d = .map k e
  | .array n e, d => d = .array n e
structure TyOk (P : Program) (t : TypeId) (k : TyK) : Prop where
  info : (P.info? t).map (fun i => (i.size, i.bytes, i.zero)) = some (k.size, k.bytes, some k.zero)
  und : ∃ d, P.underlying t = some d ∧ k.desc.fits P d
def lookT : TypeId → List (TypeId × TyK) → Option TyK
  | _, [] => none
  | t, (s, v) :: r => bif Nat.beq s t then some v else lookT t r
def AllT (P : Program) : List (TypeId × TyK) → Prop
  | [] => True
  | p :: r => TyOk P p.1 p.2 ∧ AllT P r
class Tys (P : Program) where
  tab : List (TypeId × TyK)
  ok : AllT P tab
theorem allT_look {P : Program} {l : List (TypeId × TyK)} (h : AllT P l) {t : TypeId} {k : TyK} (hk : lookT t l = some k) : TyOk P t k := by
  induction l with
  | nil => cases hk
  | cons p r ih =>
    obtain ⟨s, v⟩ := p
    simp only [lookT] at hk
    by_cases e : s = t
    · subst e
      simp at hk
      subst hk
      exact h.1
    · rw [beq_no e] at hk
      exact ih h.2 hk
def tyk (P : Program) [Tys P] (t : TypeId) : Option TyK := lookT t (Tys.tab P)
theorem tyk_ok {P : Program} [Tys P] {t : TypeId} {k : TyK} (h : tyk P t = some k) : TyOk P t k := allT_look Tys.ok h
theorem TyOk.get {P : Program} {t : TypeId} {k : TyK} (h : TyOk P t k) : ∃ i, P.info? t = some i ∧ i.size = k.size ∧ i.bytes = k.bytes ∧ i.zero = some k.zero := by
  have := h.info
  cases hi : P.info? t with
  | none => rw [hi] at this; cases this
  | some i => rw [hi] at this; simp at this; exact ⟨i, rfl, this.1, this.2.1, this.2.2⟩
theorem TyOk.isAgg {P : Program} {t : TypeId} {k : TyK} (h : TyOk P t k) (w : World) : (isAgg t).run P w = .ok k.desc.agg w := by
  obtain ⟨d, hd, hf⟩ := h.und
  unfold Go.isAgg
  rw [Sem.run_bind, run_underlying hd w]
  cases hk : k.desc <;> rw [hk] at hf <;> simp only [TyD.fits] at hf
  case plain => cases d <;> simp_all [TyD.agg]
  case struct fs => obtain ⟨f, rfl, _⟩ := hf; simp [TyD.agg]
  all_goals (subst hf; simp [TyD.agg])
theorem TyOk.sizeOf {P : Program} {t : TypeId} {k : TyK} (h : TyOk P t k) (w : World) : (sizeOf t).run P w = .ok k.size w := by
  obtain ⟨i, hi, h1, _⟩ := h.get
  simp [Go.sizeOf, typeInfo, hi, h1]
theorem sizeOf_of_cells {P : Program} {t : TypeId} {s : Nat} (h : P.cellsOf t = s) (h0 : s ≠ 0) (w : World) : (sizeOf t).run P w = .ok s w := by
  unfold Program.cellsOf at h
  cases hi : P.info? t with
  | none => rw [hi] at h; simp at h; omega
  | some i => rw [hi] at h; simp at h; simp [Go.sizeOf, typeInfo, hi, h]

abbrev strV (l : List UInt8) : Value := .string ⟨l.toArray⟩
abbrev intV (n : Int) : Value := .int .i64 n

section
variable {P : Program} {n : FK} {w0 : World} {H0 H : Hp} {S : World → Prop} {env : List (Nat × Value)} {L : List Loc}
/-- A value that does not ask the world. -/
theorem V.plain {op : Op} {v : Value} (h : ∀ (o : Oper) a, o.op = op → Fr n env a → execOp a.eval o = Pure.pure (Next.value v)) : V P n S env op v :=
  ⟨fun o a w ho hf _ => by rw [h o a ho hf]; rfl⟩
theorem V.move {x : Operand} {v : Value} (hx : ev env x = some v) : V P n S env (.move x) v :=
  V.plain fun o a ho hf => by unfold execOp; rw [ho]; simp only [hf.ev hx]
theorem V.assign {x : Operand} {v : Value} (hx : ev env x = some v) : V P n S env (.assign x) v :=
  V.plain fun o a ho hf => by unfold execOp; rw [ho]; simp only [hf.ev hx]
theorem V.pick_true {c x y : Operand} {v : Value} (hc : ev env c = some (.bool true)) (hx : ev env x = some v) : V P n S env (.pick c x y) v :=
  ⟨fun o a w ho hf _ => by unfold execOp; rw [ho]; simp [hf.ev hc, hf.ev hx, asBool]⟩
theorem V.pick_false {c x y : Operand} {v : Value} (hc : ev env c = some (.bool false)) (hy : ev env y = some v) : V P n S env (.pick c x y) v :=
  ⟨fun o a w ho hf _ => by unfold execOp; rw [ho]; simp [hf.ev hc, hf.ev hy, asBool]⟩
theorem V.not {t : TypeId} {x : Operand} {e : Bool} (hx : ev env x = some (.bool e)) : V P n S env (.unOp .not t x) (.bool (!e)) :=
  ⟨fun o a w ho hf _ => by unfold execOp; rw [ho]; simp [hf.ev hx, Op.unary]⟩
theorem V.extract {x : Operand} {i : Nat} {vs : Array Value} {v : Value} (hx : ev env x = some (.tuple vs)) (hi : vs[i]? = some v) : V P n S env (.extract x i) v :=
  ⟨fun o a w ho hf _ => by unfold execOp; rw [ho]; simp [hf.ev hx, Instr.extract, hi]⟩
theorem V.makeFunc {fn : Fn} {first captured : Array Operand} {vs us : List Value} (hf1 : first.toList.map (ev env) = vs.map some) (hf2 : captured.toList.map (ev env) = us.map some) : V P n S env (.makeFunc fn first captured) (.func fn vs.toArray us.toArray) :=
  ⟨fun o a w ho hf _ => by
    have key : ∀ (xs : Array Operand) (zs : List Value), xs.toList.map (Go.Proofs.YtfbhcemlnojejaaDoor.ev env) = zs.map some → xs.map a.eval = zs.toArray := by
      intro xs zs h
      apply Array.toList_inj.1
      rw [Array.toList_map]
      generalize xs.toList = l at h
      induction l generalizing zs with
      | nil => cases zs <;> simp_all
      | cons x l ih =>
        cases zs with
        | nil => simp at h
        | cons z zs =>
          simp only [List.map_cons, List.cons.injEq] at h
          simp only [List.map_cons, hf.ev h.1]
          have := ih zs h.2
          simp at this ⊢
          exact this
    unfold execOp; rw [ho]; simp [Instr.makeFunc, key _ _ hf1, key _ _ hf2]⟩

/-! ### int -/
theorem wrap_i64 {x : Int} (h : -9223372036854775808 ≤ x ∧ x ≤ 9223372036854775807) : IntKind.i64.wrap x = x := IntWalk.i64_in _ h
theorem V.add {t u : TypeId} {x y : Operand} {i j : Int} (hx : ev env x = some (intV i)) (hy : ev env y = some (intV j)) (h : -9223372036854775808 ≤ i + j ∧ i + j ≤ 9223372036854775807) : V P n S env (.binOp .add t x y u) (intV (i + j)) :=
  ⟨fun o a w ho hf _ => by unfold execOp; rw [ho]; simp [hf.ev hx, hf.ev hy, binOp, eqGuard, Op.intArith, wrap_i64 h]⟩
theorem V.sub {t u : TypeId} {x y : Operand} {i j : Int} (hx : ev env x = some (intV i)) (hy : ev env y = some (intV j)) (h : -9223372036854775808 ≤ i - j ∧ i - j ≤ 9223372036854775807) : V P n S env (.binOp .sub t x y u) (intV (i - j)) :=
  ⟨fun o a w ho hf _ => by unfold execOp; rw [ho]; simp [hf.ev hx, hf.ev hy, binOp, eqGuard, Op.intArith, wrap_i64 h]⟩
theorem V.lss {k : IntKind} {t u : TypeId} {x y : Operand} {i j : Int} (hx : ev env x = some (.int k i)) (hy : ev env y = some (.int k j)) : V P n S env (.binOp .lss t x y u) (.bool (decide (i < j))) :=
  ⟨fun o a w ho hf _ => by unfold execOp; rw [ho]; simp [hf.ev hx, hf.ev hy, binOp, eqGuard, Op.intCmp]⟩
theorem V.leq {k : IntKind} {t u : TypeId} {x y : Operand} {i j : Int} (hx : ev env x = some (.int k i)) (hy : ev env y = some (.int k j)) : V P n S env (.binOp .leq t x y u) (.bool (decide (i ≤ j))) :=
  ⟨fun o a w ho hf _ => by unfold execOp; rw [ho]; simp [hf.ev hx, hf.ev hy, binOp, eqGuard, Op.intCmp]⟩
theorem V.gtr {k : IntKind} {t u : TypeId} {x y : Operand} {i j : Int} (hx : ev env x = some (.int k i)) (hy : ev env y = some (.int k j)) : V P n S env (.binOp .gtr t x y u) (.bool (decide (j < i))) :=
  ⟨fun o a w ho hf _ => by unfold execOp; rw [ho]; simp [hf.ev hx, hf.ev hy, binOp, eqGuard, Op.intCmp]⟩
theorem V.geq {k : IntKind} {t u : TypeId} {x y : Operand} {i j : Int} (hx : ev env x = some (.int k i)) (hy : ev env y = some (.int k j)) : V P n S env (.binOp .geq t x y u) (.bool (decide (j ≤ i))) :=
  ⟨fun o a w ho hf _ => by unfold execOp; rw [ho]; simp [hf.ev hx, hf.ev hy, binOp, eqGuard, Op.intCmp]⟩
theorem V.eql {k : IntKind} {t u : TypeId} {x y : Operand} {i j : Int} (hx : ev env x = some (.int k i)) (hy : ev env y = some (.int k j)) : V P n S env (.binOp .eql t x y u) (.bool (decide (i = j))) :=
  ⟨fun o a w ho hf _ => by unfold execOp; rw [ho]; simp [hf.ev hx, hf.ev hy, binOp, eqGuard, Op.intCmp]; rfl⟩
theorem V.neq {k : IntKind} {t u : TypeId} {x y : Operand} {i j : Int} (hx : ev env x = some (.int k i)) (hy : ev env y = some (.int k j)) : V P n S env (.binOp .neq t x y u) (.bool (!decide (i = j))) :=
  ⟨fun o a w ho hf _ => by unfold execOp; rw [ho]; simp [hf.ev hx, hf.ev hy, binOp, eqGuard, Op.intCmp]; rfl⟩

/-! ### strings -/
theorem bytes_eq (a b : List UInt8) : ((⟨a.toArray⟩ : ByteArray).toList == (⟨b.toArray⟩ : ByteArray).toList) = decide (a = b) := by
  rw [ByteArray.toList_eq, ByteArray.toList_eq, Bool.eq_iff_iff]; simp
theorem V.seql {t u : TypeId} {x y : Operand} {i j : List UInt8} (hx : ev env x = some (strV i)) (hy : ev env y = some (strV j)) : V P n S env (.binOp .eql t x y u) (.bool (decide (i = j))) :=
  ⟨fun o a w ho hf _ => by unfold execOp; rw [ho]; simp only [hf.ev hx, hf.ev hy, binOp, eqGuard, Op.stringOp, bytes_eq]; simp⟩
theorem V.sneq {t u : TypeId} {x y : Operand} {i j : List UInt8} (hx : ev env x = some (strV i)) (hy : ev env y = some (strV j)) : V P n S env (.binOp .neq t x y u) (.bool (!decide (i = j))) :=
  ⟨fun o a w ho hf _ => by unfold execOp; rw [ho]; simp only [hf.ev hx, hf.ev hy, binOp, eqGuard, Op.stringOp, bytes_eq]; simp⟩
theorem V.slss {t u : TypeId} {x y : Operand} {i j : List UInt8} (hx : ev env x = some (strV i)) (hy : ev env y = some (strV j)) : V P n S env (.binOp .lss t x y u) (.bool (Op.bytesLess i j)) :=
  ⟨fun o a w ho hf _ => by unfold execOp; rw [ho]; simp only [hf.ev hx, hf.ev hy, binOp, eqGuard, Op.stringOp, ByteArray.toList_mk]; simp⟩
theorem V.slen [Tys P] {t : TypeId} {tys : Array TypeId} {x : Operand} {l : List UInt8} {k : TyK} (ht : tys[0]? = some t) (hk : tyk P t = some k) (hd : k.desc = .str) (hx : ev env x = some (strV l)) : V P n S env (.call { callee := .builtin .len, args := #[x], argTypes := tys }) (intV l.length) :=
  ⟨fun o a w ho hf _ => by
    obtain ⟨d, hu, hf'⟩ := (tyk_ok hk).und
    rw [hd] at hf'
    simp only [TyD.fits] at hf'
    subst hf'
    unfold execOp; rw [ho]
    simp [hf.ev hx, resolve, invoke, builtin, Builtin.len_, ht, run_underlying hu, goInt]
    rfl⟩
theorem V.len [Tys P] {t e : TypeId} {tys : Array TypeId} {x : Operand} {A : Option Addr} {m c : Nat} {k : TyK} (ht : tys[0]? = some t) (hk : tyk P t = some k) (hd : k.desc = .slice e) (hx : ev env x = some (.slice A m c)) : V P n S env (.call { callee := .builtin .len, args := #[x], argTypes := tys }) (intV m) :=
  ⟨fun o a w ho hf _ => by
    obtain ⟨d, hu, hf'⟩ := (tyk_ok hk).und
    rw [hd] at hf'
    simp only [TyD.fits] at hf'
    subst hf'
    unfold execOp; rw [ho]
    simp [hf.ev hx, resolve, invoke, builtin, Builtin.len_, ht, run_underlying hu, goInt]⟩
theorem V.cap [Tys P] {t e : TypeId} {tys : Array TypeId} {x : Operand} {A : Option Addr} {m c : Nat} {k : TyK} (ht : tys[0]? = some t) (hk : tyk P t = some k) (hd : k.desc = .slice e) (hx : ev env x = some (.slice A m c)) : V P n S env (.call { callee := .builtin .cap, args := #[x], argTypes := tys }) (intV c) :=
  ⟨fun o a w ho hf _ => by
    obtain ⟨d, hu, hf'⟩ := (tyk_ok hk).und
    rw [hd] at hf'
    simp only [TyD.fits] at hf'
    subst hf'
    unfold execOp; rw [ho]
    simp [hf.ev hx, resolve, invoke, builtin, Builtin.cap_, ht, run_underlying hu, goInt]⟩
theorem V.sindex [Tys P] {t : TypeId} {x y : Operand} {l : List UInt8} {i : Int} {ik : IntKind} {k : TyK} {c : UInt8} (hk : tyk P t = some k) (hd : k.desc = .str) (hx : ev env x = some (strV l)) (hy : ev env y = some (.int ik i)) (h0 : 0 ≤ i) (hc : l[i.toNat]? = some c) : V P n S env (.index t x y) (.int .u8 c.toNat) :=
  ⟨fun o a w ho hf _ => by
    obtain ⟨d, hu, hf'⟩ := (tyk_ok hk).und
    rw [hd] at hf'
    simp only [TyD.fits] at hf'
    subst hf'
    have hc' : (⟨l.toArray⟩ : ByteArray)[i.toNat]? = some c := by
      show (if h : i.toNat < (⟨l.toArray⟩ : ByteArray).size then some _ else none) = _
      have hlt := (List.getElem?_eq_some_iff.1 hc)
      obtain ⟨h1, h2⟩ := hlt
      rw [dif_pos (by simpa [ByteArray.size] using h1)]
      exact congrArg some h2
    unfold execOp; rw [ho]
    simp [hf.ev hx, hf.ev hy, Instr.index, asIntOf, run_underlying hu, h0, hc']⟩

/-! ### memory -/
theorem V.fieldAddr [Tys P] {s : TypeId} {x : Operand} {f : Nat} {b o off sz : Nat} {ft : TypeId} {k : TyK} {fs : List (Nat × Nat × TypeId)} (hk : tyk P s = some k) (hd : k.desc = .struct fs) (hf : fs[f]? = some (off, sz, ft)) (h0 : Nat.beq sz 0 = false)
    (hx : ev env x = some (.pointer (some ⟨b, o, none⟩))) : V P n S env (.fieldAddr s x f) (.pointer (some ⟨b, o + off, none⟩)) :=
  ⟨fun op a w ho hfr _ => by
    obtain ⟨d, hu, hf'⟩ := (tyk_ok hk).und
    rw [hd] at hf'
    obtain ⟨fields, rfl, hmap⟩ := hf'
    have h0' : sz ≠ 0 := fun e => by subst e; simp at h0
    have hff : (fields.toList.map (fun f => (f.offset, P.cellsOf f.type, f.type)))[f]? = some (off, sz, ft) := by rw [hmap]; exact hf
    rw [List.getElem?_map] at hff
    cases hg : fields.toList[f]? with
    | none => rw [hg] at hff; cases hff
    | some fld =>
      rw [hg] at hff
      simp at hff
      obtain ⟨e1, e2, e3⟩ := hff
      have hg' : fields[f]? = some fld := by simpa using hg
      unfold execOp; rw [ho]
      simp [hfr.ev hx, Instr.fieldAt, run_underlying hu, hg', Instr.sureAddr, fieldPlace, sizeOf_of_cells e2 h0' w, h0', e1, Addr.add_mid]⟩
theorem run_load_cell [Tys P] {t : TypeId} {k : TyK} (hk : tyk P t = some k) (ha : k.desc.agg = false) {w : World} {b o : Nat} {v : Value} (hc : w.cell? ⟨b, o, none⟩ = some v) : (Instr.loadAt t (.pointer (some ⟨b, o, none⟩))).run P w = .ok v w := by
  simp only [Instr.loadAt, Instr.sureAddr, Sem.run_bind, Sem.run_pure, Result.andThen_ok, loadVar, (tyk_ok hk).isAgg w, ha]
  simp [load, Sem.run, hc]
theorem run_load_row [Tys P] {t : TypeId} {k : TyK} (hk : tyk P t = some k) (ha : k.desc.agg = true) {w : World} {b o : Nat} {cs : List Value} (hl : cs.length = k.size) (hc : ∀ j v, cs[j]? = some v → w.cell? ⟨b, o + j, none⟩ = some v) : (Instr.loadAt t (.pointer (some ⟨b, o, none⟩))).run P w = .ok (.agg cs.toArray) w := by
  have hl' : (loadCells ⟨b, o, none⟩ cs.length).run P w = .ok cs.toArray w :=
    run_loadCells_list (P := P) w ⟨b, o, none⟩ cs (fun j v hv => by rw [Addr.add_mid]; exact hc j v hv)
  rw [hl] at hl'
  simp only [Instr.loadAt, Instr.sureAddr, Sem.run_bind, Sem.run_pure, Result.andThen_ok, loadVar, (tyk_ok hk).isAgg w, ha, if_true, (tyk_ok hk).sizeOf w, hl']
theorem St.blk_cell {w : World} (hs : St w0 H0 H L w) {b : Nat} {T : TypeId} {cs : List Value} (hm : Loc.blk b T cs ∈ L) {o : Nat} {v : Value} (hv : cs[o]? = some v) : w.cell? ⟨b, o, none⟩ = some v := by
  have := (hs.ok _ hm).2
  unfold World.cell?
  simp [this, hv]
/-- A load out of a block of the call's own: one cell. -/
theorem V.load_loc [Tys P] {t : TypeId} {x : Operand} {b o : Nat} {T : TypeId} {cs : List Value} {k : TyK} {v : Value} (hk : tyk P t = some k) (ha : k.desc.agg = false) (hx : ev env x = some (.pointer (some ⟨b, o, none⟩))) (hm : Loc.blk b T cs ∈ L) (hv : cs[o]? = some v) :
    V P n (St w0 H0 H L) env (.load t x) v :=
  ⟨fun op a w ho hf hs => by
    unfold execOp; rw [ho]; simp only [hf.ev hx, Sem.run_bind, run_load_cell hk ha (hs.blk_cell hm hv)]; rfl⟩
/-- A load out of a block of the call's own: a struct. -/
theorem V.load_loc_row [Tys P] {t : TypeId} {x : Operand} {b o : Nat} {T : TypeId} {cs vs : List Value} {k : TyK} (hk : tyk P t = some k) (ha : k.desc.agg = true) (hx : ev env x = some (.pointer (some ⟨b, o, none⟩))) (hm : Loc.blk b T cs ∈ L) (hv : (cs.drop o).take k.size = vs) (hl : vs.length = k.size) :
    V P n (St w0 H0 H L) env (.load t x) (.agg vs.toArray) :=
  ⟨fun op a w ho hf hs => by
    unfold execOp; rw [ho]
    have : (Instr.loadAt t (.pointer (some ⟨b, o, none⟩))).run P w = .ok (.agg vs.toArray) w := run_load_row hk ha hl fun j v hj => by
      refine hs.blk_cell hm ?_
      rw [← hv, List.getElem?_take] at hj
      by_cases hjk : j < k.size
      · rw [if_pos hjk, List.getElem?_drop] at hj; exact hj
      · rw [if_neg hjk] at hj; cases hj
    simp only [hf.ev hx, Sem.run_bind, this]; rfl⟩
/-- A load out of the heap that nobody writes. -/
theorem V.load_H [Tys P] {t : TypeId} {x : Operand} {b o : Nat} {k : TyK} {v : Value} (hk : tyk P t = some k) (ha : k.desc.agg = false) (hx : ev env x = some (.pointer (some ⟨b, o, none⟩))) (hv : H.cell b o = some v) : V P n (St w0 H0 H L) env (.load t x) v :=
  ⟨fun op a w ho hf hs => by
    unfold execOp; rw [ho]; simp only [hf.ev hx, Sem.run_bind, run_load_cell hk ha (hs.sat.cell hv)]; rfl⟩
theorem V.load_H_row [Tys P] {t : TypeId} {x : Operand} {b o : Nat} {k : TyK} {vs : List Value} (hk : tyk P t = some k) (ha : k.desc.agg = true) (hx : ev env x = some (.pointer (some ⟨b, o, none⟩))) (hv : H.cells b o vs) (hl : vs.length = k.size) : V P n (St w0 H0 H L) env (.load t x) (.agg vs.toArray) :=
  ⟨fun op a w ho hf hs => by
    unfold execOp; rw [ho]; simp only [hf.ev hx, Sem.run_bind, run_load_row hk ha hl (fun j v hj => hs.sat.cell (hv j v hj))]; rfl⟩
/-- The address of an element. -/
theorem V.indexAddr [Tys P] {t e : TypeId} {x y : Operand} {b o m c : Nat} {i : Int} {k ke : TyK} {ik : IntKind} (hk : tyk P t = some k) (hd : k.desc = .slice e) (hke : tyk P e = some ke) (hx : ev env x = some (.slice (some ⟨b, o, none⟩) m c)) (hy : ev env y = some (.int ik i)) (h0 : 0 ≤ i) (h1 : i < m) :
    V P n S env (.indexAddr t x y) (.pointer (some ⟨b, o + i.toNat * ke.size, none⟩)) :=
  ⟨fun op a w ho hf hs => by
    obtain ⟨d, hu, hf'⟩ := (tyk_ok hk).und
    rw [hd] at hf'
    simp only [TyD.fits] at hf'
    subst hf'
    unfold execOp; rw [ho]
    simp [hf.ev hx, hf.ev hy, Instr.indexAt, asIntOf, run_underlying hu, h0, h1, (tyk_ok hke).sizeOf w, Addr.add_mid]⟩
end
end Go.Proofs.YtfbhcemlnojejaaDoor
namespace Go.Proofs.YtfbhcemlnojejaaDoor
set_option linter.unusedVariables false
set_option linter.unusedSimpArgs false
open Go Go.RowKit

section
variable {P : Program} {n : FK} {w0 : World} {H0 H : Hp} {Q : Exit → Act → World → Prop} {env : List (Nat × Value)} {L : List Loc} {ops rest : List Oper}

/-- An operation that makes memory or writes into the call's own: what is known behind it, over a ghost; 'grow': nothing that was there turns. -/
structure X (P : Program) (n : FK) (w0 : World) (H0 : Hp) (env : List (Nat × Value)) (H : Hp) (L : List Loc) (o : Oper) (grow : Bool) {G : Type} (φ : G → Prop) (E : G → List (Nat × Value)) (HH : G → Hp) (LL : G → List Loc) : Prop where
  out : ∀ a w, Fr n env a → St w0 H0 H L w → ∀ (K : Act → World → Prop) (Q : Exit → Act → World → Prop), (∀ g a' w', φ g → (grow = true → Below w.heap.size w w') → Fr n (E g) a' → St w0 H0 (HH g) (LL g) w' → K a' w') → o.wp P a w K Q
theorem TL.x {o : Oper} {grow : Bool} {G : Type} {φ : G → Prop} {E : G → List (Nat × Value)} {HH : G → Hp} {LL : G → List Loc} (hnd : nd o = true) (hw : want ops env o = some true) (hx : X P n w0 H0 env H L o grow φ E HH LL)
    (h : ∀ g, φ g → TL P n w0 H0 ops Q rest (E g) (HH g) (LL g)) : TL P n w0 H0 ops Q (o :: rest) env H L :=
  TL.op hnd hw fun a w hf hs => hx.out a w hf hs _ _ fun g a' w' hg _ hf' hs' => (h g hg).out a' w' hf' hs'

/-! ### new blocks -/
theorem X.box {d : Nat} {t ty : TypeId} {x : Operand} {pos : String} {after : Array Edge} {g : Option (Nat × Bool)} {v : Value} {cs : List Value} (hn : Nat.blt d n.n = true) (hx : ev env x = some v) (hc : v.cells = cs.toArray) :
    X P n w0 H0 env H L ⟨some d, .box t x, ty, pos, after, g⟩ true (G := Nat) (fun _ => True) (fun b => (d, .pointer (some ⟨b, 0, none⟩)) :: env) (fun _ => H) (fun b => .blk b t cs :: L) :=
  ⟨fun a w hf hs K Q hK => by
    unfold Oper.wp
    have : (execOp a.eval ⟨some d, .box t x, ty, pos, after, g⟩).run P w = .ok (.value (.pointer (some ⟨w.heap.size, 0, none⟩))) (w.alloc (.cells cs.toArray t)) := by
      unfold execOp
      simp [hf.ev hx, Instr.box, newVar, newRow, newObj, hc]
      rfl
    rw [this]
    exact hK _ _ _ trivial (fun _ => (Below.refl _ _).alloc (Nat.le_refl _) _) (hf.put hn _) (hs.blk t cs)⟩
theorem X.alloc [Tys P] {d : Nat} {t ty : TypeId} {pos : String} {after : Array Edge} {g : Option (Nat × Bool)} {k : TyK} {cs : List Value} (hn : Nat.blt d n.n = true) (hk : tyk P t = some k) (hc : k.zero.cells = cs.toArray) :
    X P n w0 H0 env H L ⟨some d, .alloc t, ty, pos, after, g⟩ true (G := Nat) (fun _ => True) (fun b => (d, .pointer (some ⟨b, 0, none⟩)) :: env) (fun _ => H) (fun b => .blk b t cs :: L) :=
  ⟨fun a w hf hs K Q hK => by
    unfold Oper.wp
    obtain ⟨i, hi, _, _, hz⟩ := (tyk_ok hk).get
    have : (execOp a.eval ⟨some d, .alloc t, ty, pos, after, g⟩).run P w = .ok (.value (.pointer (some ⟨w.heap.size, 0, none⟩))) (w.alloc (.cells cs.toArray t)) := by
      unfold execOp
      simp [Instr.alloc, zeroValue, typeInfo, hi, hz, newVar, newRow, newObj, hc]
      rfl
    rw [this]
    exact hK _ _ _ trivial (fun _ => (Below.refl _ _).alloc (Nat.le_refl _) _) (hf.put hn _) (hs.blk t cs)⟩

/-! ### the ways of the control -/
/-- What a test says: p where it holds, q where it does not. -/
structure Is (e : Bool) (p q : Prop) : Prop where
  yes : e = true → p
  no : e = false → q
theorem Is.ndec {p : Prop} {inst : Decidable p} : Is (!@decide p inst) (¬ p) p := ⟨fun h => by simpa using h, fun h => by simpa using h⟩
theorem Is.dec {p : Prop} {inst : Decidable p} : Is (@decide p inst) p (¬ p) := ⟨fun h => of_decide_eq_true h, fun h => of_decide_eq_false h⟩
theorem Is.not {e : Bool} : Is (!e) (e = false) (e = true) := ⟨fun h => by simpa using h, fun h => by simpa using h⟩
theorem Is.base {e : Bool} : Is e (e = true) (e = false) := ⟨id, id⟩
theorem Is.litT : Is true True False := ⟨fun _ => trivial, (fun h => by cases h)⟩
theorem Is.litF : Is false False True := ⟨(fun h => by cases h), fun _ => trivial⟩
theorem TL.guard {o : Oper} {j d : Nat} {b : Bool} {op : Op} {ty : TypeId} {pos : String} {after : Array Edge} {g : Option (Nat × Bool)} {e : Bool} {p q : Prop} (_hg : o.guard = some (j, b)) (_hj : ops[j]? = some ⟨some d, op, ty, pos, after, g⟩) (hx : look d env = some (.bool e)) (hd : Is e p q)
    (ht : p → TL P n w0 H0 ops Q (o :: rest) ((d, .bool true) :: env) H L) (hf : q → TL P n w0 H0 ops Q (o :: rest) ((d, .bool false) :: env) H L) : TL P n w0 H0 ops Q (o :: rest) env H L :=
  TL.part d hx (fun h => ht (hd.yes h)) (fun h => hf (hd.no h))
theorem T.test {c : Operand} {x y : Code} {e : Bool} {p q : Prop} (hc : ev env c = some (.bool e)) (hd : Is e p q) (ht : p → T P n w0 H0 x Q env H L) (he : q → T P n w0 H0 y Q env H L) : T P n w0 H0 (.cond c x y) Q env H L :=
  T.cond hc (fun h => ht (hd.yes h)) (fun h => he (hd.no h))
theorem N.next {y : Code} {Q' : Exit → Act → World → Prop} (h : T P n w0 H0 y Q env H L) : N n w0 H0 (Exit.then (y.wpIn (FW n.r) 0 P Q) Q') .normal env H L := ⟨h.out⟩
theorem N.inBlock {id : Nat} (h : N n w0 H0 Q .normal env H L) : N n w0 H0 (Exit.inBlock id Q) .normal env H L := ⟨h.out⟩
theorem N.exit_same {id : Nat} (h : N n w0 H0 Q .normal env H L) : N n w0 H0 (Exit.inBlock id Q) (.exit id) env H L := ⟨fun a w hf hs => by
  show (if id = id then Q .normal a w else Q (.exit id) a w)
  rw [if_pos rfl]; exact h.out a w hf hs⟩
theorem N.exit_other {id id' : Nat} (hne : Nat.beq id' id = false) (h : N n w0 H0 Q (.exit id') env H L) : N n w0 H0 (Exit.inBlock id Q) (.exit id') env H L := ⟨fun a w hf hs => by
  show (if id' = id then Q .normal a w else Q (.exit id') a w)
  rw [if_neg (by rintro rfl; simp at hne)]; exact h.out a w hf hs⟩
theorem N.exit_then {id : Nat} {K : Act → World → Prop} (h : N n w0 H0 Q (.exit id) env H L) : N n w0 H0 (Exit.then K Q) (.exit id) env H L := ⟨h.out⟩
theorem N.ret_then {K : Act → World → Prop} (h : N n w0 H0 Q .ret env H L) : N n w0 H0 (Exit.then K Q) .ret env H L := ⟨h.out⟩
theorem N.ret_block {id : Nat} (h : N n w0 H0 Q .ret env H L) : N n w0 H0 (Exit.inBlock id Q) .ret env H L := ⟨h.out⟩
theorem T.ret (h : N n w0 H0 Q .ret env H L) : T P n w0 H0 .ret Q env H L := ⟨fun a w hf hs => wpIn_ret (h.out a w hf hs)⟩
/-- A round is over. -/
theorem N.round {G : Type} {E : G → List (Nat × Value)} {HH : G → Hp} {LL : G → List Loc} {φ : G → Prop} {μ : G → Nat} {m : Nat} (g : G) (h : φ g) (hm : μ g < m) (hE : Sub (E g) env) (hH : HH g = H) (hL : List.Sublist (LL g) L) :
    N n w0 H0 (Exit.then (fun a w => ∃ g', φ g' ∧ μ g' < m ∧ Fr n (E g') a ∧ St w0 H0 (HH g') (LL g') w) Q) .normal env H L := ⟨fun _ _ hf hs => ⟨g, h, hm, hf.sub hE, by rw [hH]; exact hs.sub hL⟩⟩
/-- At a cut. -/
theorem N.cut {G : Type} {E : G → List (Nat × Value)} {HH : G → Hp} {LL : G → List Loc} {φ : G → Prop} (g : G) (h : φ g) (hE : Sub (E g) env) (hH : HH g = H) (hL : List.Sublist (LL g) L) :
    N n w0 H0 (Exit.then (fun a w => ∃ g', φ g' ∧ Fr n (E g') a ∧ St w0 H0 (HH g') (LL g') w) Q) .normal env H L := ⟨fun _ _ hf hs => ⟨g, h, hf.sub hE, by rw [hH]; exact hs.sub hL⟩⟩

/-- Where a piece of code begins. -/
def headIs : Code → Nat → Bool
  | .region id _ _, k => Nat.beq id k
  | .seq x _, k => headIs x k
  | .block _ c, k => headIs c k
  | .loop c, k => headIs c k
  | _, _ => false
/-- A sequence whose second part does not begin with region k. -/
theorem T.seqU (k : Nat) {x y : Code} (hk : headIs y k = false) (h : T P n w0 H0 x (Exit.then (y.wpIn (FW n.r) 0 P Q) Q) env H L) : T P n w0 H0 (.seq x y) Q env H L := T.seq h
/-! ### stores into a block of the call's own -/
def putCells : List Value → Nat → List Value → List Value
  | cs, _, [] => cs
  | cs, o, v :: vs => putCells (cs.set o v) (o + 1) vs
theorem pairwise_set {α : Type} {R : α → α → Prop} : ∀ {l : List α} {i : Nat} {x y : α}, l.Pairwise R → l[i]? = some x → (∀ z, R x z → R y z) → (∀ z, R z x → R z y) → (l.set i y).Pairwise R
  | [], _, _, _, _, h, _, _ => by simp at h
  | a :: l, 0, x, y, hp, h, h1, _ => by
    simp at h; subst h
    cases hp with
    | cons ha hl => exact .cons (fun z hz => h1 z (ha z hz)) hl
  | a :: l, i + 1, x, y, hp, h, h1, h2 => by
    simp at h
    cases hp with
    | cons ha hl =>
      refine .cons (fun z hz => ?_) (pairwise_set hl h h1 h2)
      rcases List.mem_or_eq_of_mem_set hz with hz | rfl
      · exact ha z hz
      · exact h2 a (ha x (List.mem_of_getElem? h))
theorem St.set {w w' : World} (hs : St w0 H0 H L w) {i b : Nat} {e e' : Loc} (hi : L[i]? = some e) (hb : e.at = some b) (hb' : e'.at = some b) (hk : ∀ k, k ≠ b → w'.heap[k]? = w.heap[k]?) (hsz : w'.heap.size = w.heap.size)
    (hos : w'.os = w.os) (htape : w'.tape = w.tape) (hout : w'.output = w.output) (hok : e'.ok w0.heap.size w') : St w0 H0 H (L.set i e') w' := by
  have hme := List.mem_of_getElem? hi
  have hbase := ((hs.ok e hme).lt hb).2
  have hne : H b = none := hs.out e hme b hb
  refine ⟨⟨hos.trans hs.below.os, htape.trans hs.below.tape, hout.trans hs.below.output, by rw [hsz]; exact hs.below.size, fun k hk' => (hk k (by omega)).trans (hs.below.block k hk')⟩, fun k o ho => ?_, hs.le, hs.new, ?_, ?_, ?_⟩
  · rw [hk k (by rintro rfl; rw [hne] at ho; cases ho)]; exact hs.sat k o ho
  · intro f hf
    obtain ⟨j, hj⟩ := List.getElem?_of_mem hf
    rw [List.getElem?_set] at hj
    by_cases hij : i = j
    · subst hij
      simp only [if_true] at hj
      split at hj
      · cases hj; exact hok
      · cases hj
    · rw [if_neg hij] at hj
      have hfm := List.mem_of_getElem? hj
      refine (hs.ok f hfm).keep fun c hc => hk c ?_
      rintro rfl
      have hap := hs.apart
      rw [List.pairwise_iff_getElem] at hap
      obtain ⟨hil, hie⟩ := List.getElem?_eq_some_iff.1 hi
      obtain ⟨hjl, hje⟩ := List.getElem?_eq_some_iff.1 hj
      rcases Nat.lt_or_ge i j with hlt | hge
      · exact hap i j hil hjl hlt c (by rw [hie]; exact hb) (by rw [hje]; exact hc)
      · exact hap j i hjl hil (by omega) c (by rw [hje]; exact hc) (by rw [hie]; exact hb)
  · intro f hf c hc
    rcases List.mem_or_eq_of_mem_set hf with hf | rfl
    · exact hs.out f hf c hc
    · rw [hb'] at hc; cases hc; exact hne
  · refine pairwise_set hs.apart hi (fun z hz c hc => ?_) (fun z hz c hc hc2 => ?_)
    · rw [hb'] at hc; cases hc; exact hz b hb
    · rw [hb'] at hc2; cases hc2; exact hz b hc hb
theorem heap_setCells (b : Nat) : ∀ (vs : List Value) (o : Nat) (w : World) (k : Nat), k ≠ b → (w.setCells b o vs).heap[k]? = w.heap[k]?
  | [], _, _, _, _ => rfl
  | v :: vs, o, w, k, hk => by
    rw [World.setCells, heap_setCells b vs (o + 1) _ k hk]
    exact Below.heap_setCell w _ v k hk
theorem setCells_blk (b : Nat) (T : TypeId) : ∀ (vs : List Value) (o : Nat) (w : World) (cs : List Value), w.heap[b]? = some (.cells cs.toArray T (0, 0)) → o + vs.length ≤ cs.length →
    (w.setCells b o vs).heap[b]? = some (.cells (putCells cs o vs).toArray T (0, 0))
  | [], o, w, cs, h, hl => by simp [World.setCells, putCells, h]
  | v :: vs, o, w, cs, h, hl => by
    simp only [List.length_cons] at hl
    have h1 : (w.setCell ⟨b, o, none⟩ v).heap[b]? = some (.cells (cs.set o v).toArray T (0, 0)) := by
      simp [World.setCell, Array.getElem?_modify, h]
    rw [World.setCells, setCells_blk b T vs (o + 1) _ _ h1 (by simp; omega)]
    rfl
theorem St.store {w : World} (hs : St w0 H0 H L w) {i b o : Nat} {T : TypeId} {cs vs : List Value} (hi : L[i]? = some (.blk b T cs)) (hl : o + vs.length ≤ cs.length) : St w0 H0 H (L.set i (.blk b T (putCells cs o vs))) (w.setCells b o vs) := by
  have hb := hs.ok _ (List.mem_of_getElem? hi)
  have key : ∀ (vs : List Value) (o : Nat) (w : World), (w.setCells b o vs).heap.size = w.heap.size ∧ (w.setCells b o vs).os = w.os ∧ (w.setCells b o vs).tape = w.tape ∧ (w.setCells b o vs).output = w.output := by
    intro vs
    induction vs with
    | nil => intro o w; exact ⟨rfl, rfl, rfl, rfl⟩
    | cons v vs ih =>
      intro o w
      rw [World.setCells]
      obtain ⟨h1, h2, h3, h4⟩ := ih (o + 1) (w.setCell ⟨b, o, none⟩ v)
      exact ⟨h1.trans (by simp [World.setCell]), h2, h3, h4⟩
  obtain ⟨h1, h2, h3, h4⟩ := key vs o w
  exact hs.set hi rfl rfl (fun k hk => heap_setCells b vs o w k hk) h1 h2 h3 h4 ⟨hb.1, setCells_blk b T vs o w cs hb.2 hl⟩
theorem run_store_blk [Tys P] {t : TypeId} {k : TyK} (hk : tyk P t = some k) {w : World} {b o : Nat} {T : TypeId} {cs vs : List Value} {v : Value} (hb : w.heap[b]? = some (.cells cs.toArray T (0, 0))) (hv : v.cells = vs.toArray) (hl : vs.length = k.size) (h1 : vs.all (·.oneCell') = true) (ho : o + vs.length ≤ cs.length) :
    (Instr.storeAt t (.pointer (some ⟨b, o, none⟩)) v).run P w = .ok () (w.setCells b o vs) := by
  have hcell : ∀ j, j < vs.length → (w.cell? ⟨b, o + 0 + j, none⟩).isSome = true := fun j hj => by
    unfold World.cell?
    simp [hb]; omega
  have hfr : ∀ j, j < vs.length → w.frozen? ⟨b, o + 0 + j, none⟩ = false := fun j hj => by
    unfold World.frozen?
    simp [hb]
  have hst := run_storeCells_cells (P := P) b o vs 0 w hcell hfr (fun v hv => List.all_eq_true.1 h1 v hv)
  rw [Nat.add_zero] at hst
  have hsz : v.cells.size = k.size := by rw [hv]; simpa using hl
  simp [Instr.storeAt, Instr.sureAddr, storeVar, (tyk_ok hk).sizeOf w, hsz]
  rw [hv]
  exact hst
/-- A store into a block of the call's own (number i of L). -/
theorem X.store [Tys P] {t ty : TypeId} {p x : Operand} {pos : String} {after : Array Edge} {g : Option (Nat × Bool)} {b o : Nat} {T : TypeId} {cs vs : List Value} {v : Value} {k : TyK} (i : Nat) (hk : tyk P t = some k)
    (hp : ev env p = some (.pointer (some ⟨b, o, none⟩))) (hx : ev env x = some v) (hi : L[i]? = some (.blk b T cs)) (hv : v.cells = vs.toArray) (hl : vs.length = k.size) (h1 : vs.all (·.oneCell') = true) (ho : Nat.ble (o + vs.length) cs.length = true)
    {L' : List Loc} (hL' : L.set i (.blk b T (putCells cs o vs)) = L') : X P n w0 H0 env H L ⟨none, .store t p x, ty, pos, after, g⟩ false (G := Unit) (fun _ => True) (fun _ => env) (fun _ => H) (fun _ => L') :=
  ⟨fun a w hf hs K Q hK => by
    unfold Oper.wp
    have ho' : o + vs.length ≤ cs.length := Nat.le_of_ble_eq_true ho
    have hrun := run_store_blk hk ((hs.ok _ (List.mem_of_getElem? hi)).2) hv hl h1 ho'
    have : (execOp a.eval ⟨none, .store t p x, ty, pos, after, g⟩).run P w = .ok .skip (w.setCells b o vs) := by
      unfold execOp
      simp only [hf.ev hp, hf.ev hx, Sem.run_bind, hrun]
      rfl
    rw [this]
    subst hL'
    exact hK () _ _ trivial (fun h => by cases h) (hf.put_none _) (hs.store hi ho')⟩

/-! ### calls -/
def evs (env : List (Nat × Value)) : List Operand → Option (List Value)
  | [] => some []
  | x :: r =>
    match ev env x, evs env r with
    | some v, some l => some (v :: l)
    | _, _ => none
theorem Fr.evs {a : Act} (h : Fr n env a) : ∀ {xs : List Operand} {vs : List Value}, evs env xs = some vs → xs.map a.eval = vs
  | [], vs, hx => by simp [Go.Proofs.YtfbhcemlnojejaaDoor.evs] at hx; simp [hx]
  | x :: r, vs, hx => by
    simp only [Go.Proofs.YtfbhcemlnojejaaDoor.evs] at hx
    cases h1 : Go.Proofs.YtfbhcemlnojejaaDoor.ev env x with
    | none => rw [h1] at hx; cases hx
    | some v =>
      cases h2 : Go.Proofs.YtfbhcemlnojejaaDoor.evs env r with
      | none => rw [h1, h2] at hx; cases hx
      | some l =>
        rw [h1, h2] at hx
        simp at hx
        subst hx
        simp [h.ev h1, h.evs h2]
/-- It hands back v and leaves what was there. -/
def Ret (w : World) (v : Value) : Ending → World → Prop := fun e w' => e = .returned v ∧ Below w.heap.size w w'
/-- It hands back new memory. -/
def RetF {G : Type} (w : World) (H : Hp) (φ : G → Prop) (v : G → Value) (H' : G → Hp) : Ending → World → Prop := fun e w' => ∃ g, φ g ∧ e = .returned (v g) ∧ Fresh w H (H' g) w'
theorem run_call {a : Act} {w : World} {o : Oper} {x : Operand} {args : Array Operand} {tys : Array TypeId} (ho : o.op = .call { callee := .value x, args := args, argTypes := tys }) {f : FuncId} {first cap : Array Value} {vs : List Value}
    (hx : a.eval x = .func (.func f) first cap) (hargs : args.toList.map a.eval = vs) (hcall : ∀ (args : Array Value) (w : World), (callFunc f args).run P w = .ok (.enter f args) w) :
    (execOp a.eval o).run P w = .ok (.enter f (first ++ vs.toArray ++ cap)) w := by
  have : args.map a.eval = vs.toArray := by apply Array.toList_inj.1; simpa using hargs
  unfold execOp
  rw [ho]
  simp [resolve, hx, Deferred.ofValue, invoke, this, hcall]
theorem TL.call {d : Nat} {x : Operand} {args : Array Operand} {tys : Array TypeId} {ty : TypeId} {pos : String} {after : Array Edge} {g : Option (Nat × Bool)} {f : FuncId} {first cap : Array Value} {vs : List Value} {v : Value} (hn : Nat.blt d n.n = true)
    (hw : want ops env ⟨some d, .call { callee := .value x, args := args, argTypes := tys }, ty, pos, after, g⟩ = some true) (hx : ev env x = some (.func (.func f) first cap)) (hargs : evs env args.toList = some vs)
    (hcall : ∀ (args : Array Value) (w : World), (callFunc f args).run P w = .ok (.enter f args) w)
    (hc : ∀ w, St w0 H0 H L w → Calls P f (first ++ vs.toArray ++ cap) w (Ret w v)) (h : TL P n w0 H0 ops Q rest ((d, v) :: env) H L) :
    TL P n w0 H0 ops Q (⟨some d, .call { callee := .value x, args := args, argTypes := tys }, ty, pos, after, g⟩ :: rest) env H L :=
  TL.op rfl hw fun a w hf hs => by
    unfold Oper.wp
    rw [run_call rfl (hf.ev hx) (hf.evs hargs) hcall]
    refine Calls.mono (hc w hs) fun e w' ⟨he, hb⟩ => ?_
    subst he
    exact h.out _ _ (hf.put hn v) (hs.grow hb)
/-- .. of a function that stands there by name. -/
theorem TL.call0 {d : Nat} {f : FuncId} {args : Array Operand} {tys : Array TypeId} {ty : TypeId} {pos : String} {after : Array Edge} {g : Option (Nat × Bool)} {vs : List Value} {v : Value} 
    (hcall : ∀ (args : Array Value) (w : World), (callFunc f args).run P w = .ok (.enter f args) w) (hn : Nat.blt d n.n = true)
    (hw : want ops env ⟨some d, .call { callee := .value (.func f), args := args, argTypes := tys }, ty, pos, after, g⟩ = some true) (hargs : evs env args.toList = some vs)
    (hc : ∀ w, St w0 H0 H L w → Calls P f vs.toArray w (Ret w v)) (h : TL P n w0 H0 ops Q rest ((d, v) :: env) H L) :
    TL P n w0 H0 ops Q (⟨some d, .call { callee := .value (.func f), args := args, argTypes := tys }, ty, pos, after, g⟩ :: rest) env H L :=
  TL.call hn hw (by rfl) hargs hcall (fun w hs => by simpa using hc w hs) h
theorem X.callF {G : Type} {φ : G → Prop} {v : G → Value} {H' : G → Hp} {d : Nat} {x : Operand} {args : Array Operand} {tys : Array TypeId} {ty : TypeId} {pos : String} {after : Array Edge} {g : Option (Nat × Bool)} {f : FuncId} {first cap : Array Value} {vs : List Value} (hn : Nat.blt d n.n = true)
    (hx : ev env x = some (.func (.func f) first cap)) (hargs : evs env args.toList = some vs)
    (hcall : ∀ (args : Array Value) (w : World), (callFunc f args).run P w = .ok (.enter f args) w)
    (hc : ∀ w, St w0 H0 H L w → Calls P f (first ++ vs.toArray ++ cap) w (RetF w H φ v H')) :
    X P n w0 H0 env H L ⟨some d, .call { callee := .value x, args := args, argTypes := tys }, ty, pos, after, g⟩ true (fun g => φ g ∧ H.le (H' g)) (fun g => (d, v g) :: env) H' (fun _ => L) :=
  ⟨fun a w hf hs K Q hK => by
    unfold Oper.wp
    rw [run_call rfl (hf.ev hx) (hf.evs hargs) hcall]
    refine Calls.mono (hc w hs) fun e w' ⟨g, hg, he, hb⟩ => ?_
    subst he
    exact hK g _ _ ⟨hg, hb.le⟩ (fun _ => hb.below) (hf.put hn _) (hs.call hb)⟩
theorem X.callF0 {G : Type} {φ : G → Prop} {v : G → Value} {H' : G → Hp} {d : Nat} {f : FuncId} {args : Array Operand} {tys : Array TypeId} {ty : TypeId} {pos : String} {after : Array Edge} {g : Option (Nat × Bool)} {vs : List Value}
    (hcall : ∀ (args : Array Value) (w : World), (callFunc f args).run P w = .ok (.enter f args) w) (hn : Nat.blt d n.n = true)
    (hargs : evs env args.toList = some vs) (hc : ∀ w, St w0 H0 H L w → Calls P f vs.toArray w (RetF w H φ v H')) :
    X P n w0 H0 env H L ⟨some d, .call { callee := .value (.func f), args := args, argTypes := tys }, ty, pos, after, g⟩ true (fun g => φ g ∧ H.le (H' g)) (fun g => (d, v g) :: env) H' (fun _ => L) :=
  X.callF hn (by rfl) hargs hcall (fun w hs => by simpa using hc w hs)

/-! ### in and out -/
def argEnv : Nat → List Value → List (Nat × Value)
  | _, [] => []
  | i, v :: r => (i, v) :: argEnv (i + 1) r
theorem look_argEnv : ∀ (vs : List Value) (i t : Nat) (v : Value), look t (argEnv i vs) = some v → i ≤ t ∧ vs[t - i]? = some v
  | [], _, _, _, h => by cases h
  | u :: r, i, t, v, h => by
    simp only [argEnv, look] at h
    by_cases e : i = t
    · subst e
      simp at h
      simp [h]
    · rw [beq_no e] at h
      obtain ⟨h1, h2⟩ := look_argEnv r (i + 1) t v h
      refine ⟨by omega, ?_⟩
      rw [show t - i = (t - (i + 1)) + 1 by omega]
      simpa using h2
theorem T.enter {f : FuncId} {fn : Func} {c : Code} {vs : List Value} {w : World} {R : Ending → World → Prop} (hf : P.funcs[f]? = some fn) (hb : fn.body = some c) {m : Nat} (hn : fn.ntmps = m) (hl : Nat.ble vs.length m = true) (hs : Sat H w)
    (h : T P ⟨m, [], none⟩ w H c (bodyPost P fn R) (argEnv 0 vs) H []) : Calls P f vs.toArray w R := by
  refine callsFW' (r := none) (callsIn_of_wp hf hb trivial (h.out _ w ⟨rfl, ?_, fun t v hv => ?_⟩ (St.start w H hs)))
  · have := Nat.le_of_ble_eq_true hl
    simp [hn]; omega
  · obtain ⟨_, h2⟩ := look_argEnv vs 0 t v hv
    rw [Nat.sub_zero] at h2
    have hlt : t < vs.length := (List.getElem?_eq_some_iff.1 h2).1
    rw [Array.getElem?_append_left (by simpa using hlt)]
    simpa using h2
def resOne (tmps : Array Value) : ResultVar → Sem Value
  | .tmp t => pure (tmps.getD t undef)
  | .cell a t => do loadVar t (← asAddr (tmps.getD a undef))
/-- What a result's variable holds. -/
def RV (P : Program) (n : FK) (w0 : World) (H0 : Hp) (env : List (Nat × Value)) (H : Hp) (L : List Loc) (r : ResultVar) (v : Value) : Prop :=
  ∀ a w, Fr n env a → St w0 H0 H L w → (resOne a.tmps r).run P w = .ok v w
theorem RV.tmp {t : Nat} {v : Value} (h : look t env = some v) : RV P n w0 H0 env H L (.tmp t) v := fun a w hf _ => by
  have := hf.vals t v h
  simp [resOne, Array.getD_eq_getD_getElem?, this]
theorem RV.cell [Tys P] {t : Nat} {T T' : TypeId} {b : Nat} {k : TyK} {v : Value} (h : look t env = some (.pointer (some ⟨b, 0, none⟩))) (hk : tyk P T = some k) (ha : k.desc.agg = false) (hm : Loc.blk b T' [v] ∈ L) : RV P n w0 H0 env H L (.cell t T) v := fun a w hf hs => by
  have h1 := hf.vals t _ h
  have h2 := run_load_cell hk ha (hs.blk_cell hm (o := 0) rfl)
  simp only [Instr.loadAt, Instr.sureAddr, Sem.run_bind, Sem.run_pure, Result.andThen_ok] at h2
  simp [resOne, Array.getD_eq_getD_getElem?, h1, asAddr, h2]
theorem RV.row [Tys P] {t : Nat} {T T' : TypeId} {b : Nat} {k : TyK} {cs : List Value} (h : look t env = some (.pointer (some ⟨b, 0, none⟩))) (hk : tyk P T = some k) (ha : k.desc.agg = true) (hm : Loc.blk b T' cs ∈ L) (hl : cs.length = k.size) : RV P n w0 H0 env H L (.cell t T) (.agg cs.toArray) := fun a w hf hs => by
  have h1 := hf.vals t _ h
  have h2 := run_load_row hk ha (w := w) (b := b) (o := 0) hl (fun j v hj => by rw [Nat.zero_add]; exact hs.blk_cell hm hj)
  simp only [Instr.loadAt, Instr.sureAddr, Sem.run_bind, Sem.run_pure, Result.andThen_ok] at h2
  simp [resOne, Array.getD_eq_getD_getElem?, h1, asAddr, h2]
theorem results_eq (fn : Func) (tmps : Array Value) : results fn tmps = (do let vs ← fn.results.mapM (resOne tmps); pure (if h : vs.size = 1 then vs[0] else .tuple vs)) := by
  unfold results
  congr 1
theorem N.ret1 {m : Nat} {ro : Option Nat} {fn : Func} {R : Ending → World → Prop} {r : ResultVar} {v : Value} (hr : fn.results = #[r]) (h1 : RV P ⟨m, [], ro⟩ w0 H0 env H L r v) (h : ∀ w, St w0 H0 H L w → R (.returned v) w) : N ⟨m, [], ro⟩ w0 H0 (bodyPost P fn R) .ret env H L :=
  ⟨fun a w hf hs => ⟨hf.defers, v, by rw [results_eq, hr]; simp [h1 a w hf hs], h w hs⟩⟩
theorem N.ret_bool {m : Nat} {ro : Option Nat} {fn : Func} {r : ResultVar} {e v : Bool} (hr : fn.results = #[r]) (h1 : RV P ⟨m, [], ro⟩ w0 H0 env H L r (.bool e)) (he : e = v) : N ⟨m, [], ro⟩ w0 H0 (bodyPost P fn (Ret w0 (.bool v))) .ret env H L :=
  N.ret1 hr h1 fun _ hs => ⟨by rw [he], hs.below⟩
theorem N.ret_int {m : Nat} {ro : Option Nat} {fn : Func} {r : ResultVar} {k : IntKind} {e v : Int} (hr : fn.results = #[r]) (h1 : RV P ⟨m, [], ro⟩ w0 H0 env H L r (.int k e)) (he : e = v) : N ⟨m, [], ro⟩ w0 H0 (bodyPost P fn (Ret w0 (.int k v))) .ret env H L :=
  N.ret1 hr h1 fun _ hs => ⟨by rw [he], hs.below⟩
theorem N.ret_val {m : Nat} {ro : Option Nat} {fn : Func} {r : ResultVar} {e v : Value} (hr : fn.results = #[r]) (h1 : RV P ⟨m, [], ro⟩ w0 H0 env H L r e) (he : e = v) : N ⟨m, [], ro⟩ w0 H0 (bodyPost P fn (Ret w0 v)) .ret env H L :=
  N.ret1 hr h1 fun _ hs => ⟨by rw [he], hs.below⟩
theorem N.ret2 {m : Nat} {ro : Option Nat} {fn : Func} {R : Ending → World → Prop} {r s : ResultVar} {v u : Value} (hr : fn.results = #[r, s]) (h1 : RV P ⟨m, [], ro⟩ w0 H0 env H L r v) (h2 : RV P ⟨m, [], ro⟩ w0 H0 env H L s u) (h : ∀ w, St w0 H0 H L w → R (.returned (.tuple #[v, u])) w) : N ⟨m, [], ro⟩ w0 H0 (bodyPost P fn R) .ret env H L :=
  ⟨fun a w hf hs => ⟨hf.defers, .tuple #[v, u], by rw [results_eq, hr]; simp [h1 a w hf hs, h2 a w hf hs], h w hs⟩⟩
theorem N.ret3 {m : Nat} {ro : Option Nat} {fn : Func} {R : Ending → World → Prop} {r s t : ResultVar} {v u x : Value} (hr : fn.results = #[r, s, t]) (h1 : RV P ⟨m, [], ro⟩ w0 H0 env H L r v) (h2 : RV P ⟨m, [], ro⟩ w0 H0 env H L s u) (h3 : RV P ⟨m, [], ro⟩ w0 H0 env H L t x) (h : ∀ w, St w0 H0 H L w → R (.returned (.tuple #[v, u, x])) w) : N ⟨m, [], ro⟩ w0 H0 (bodyPost P fn R) .ret env H L :=
  ⟨fun a w hf hs => ⟨hf.defers, .tuple #[v, u, x], by rw [results_eq, hr]; simp [h1 a w hf hs, h2 a w hf hs, h3 a w hf hs], h w hs⟩⟩
theorem N.ret0 {m : Nat} {ro : Option Nat} {fn : Func} {R : Ending → World → Prop} (hr : fn.results = #[]) (h : ∀ w, St w0 H0 H L w → R (.returned (.tuple #[])) w) : N ⟨m, [], ro⟩ w0 H0 (bodyPost P fn R) .ret env H L :=
  ⟨fun _ w hf hs => ⟨hf.defers, .tuple #[], by rw [results_eq, hr]; simp, h w hs⟩⟩
/-- A body without results comes to its end. -/
theorem N.end0 {m : Nat} {ro : Option Nat} {fn : Func} {R : Ending → World → Prop} (hr : fn.results = #[]) (h : ∀ w, St w0 H0 H L w → R (.returned (.tuple #[])) w) : N ⟨m, [], ro⟩ w0 H0 (bodyPost P fn R) .normal env H L :=
  ⟨fun _ w hf hs => ⟨hf.defers, .tuple #[], by rw [results_eq, hr]; simp, h w hs⟩⟩
end
end Go.Proofs.YtfbhcemlnojejaaDoor
