/- An engine for walks, further rules: calls with their arguments spelled out, comparisons whose answer is known, functions as values, sub-slices. -/
import Derived.Test.YtfbhcemlnojejaaDoorEngH
import Derived.Laws.Small
namespace Go.Proofs.YtfbhcemlnojejaaDoor
set_option linter.unusedVariables false
set_option linter.unusedSimpArgs false
open Go Go.RowKit
set_option linter.unusedSectionVars false
section
variable {P : Program} {n : FK} {S : World → Prop} {env : List (Nat × Value)}
theorem V.lenE [Tys P] {t e : TypeId} {tys : Array TypeId} {x : Operand} {A : Option Addr} {m c j : Nat} {k : TyK} (ht : tys[0]? = some t) (hk : tyk P t = some k) (hd : k.desc = .slice e) (hx : ev env x = some (.slice A m c)) (hm : m = j) : V P n S env (.call { callee := .builtin .len, args := #[x], argTypes := tys }) (intV j) := by
  subst hm
  exact V.len ht hk hd hx
theorem V.eqlE {k : IntKind} {t u : TypeId} {x y : Operand} {i j : Int} (hij : i = j) (hx : ev env x = some (.int k i)) (hy : ev env y = some (.int k j)) : V P n S env (.binOp .eql t x y u) (.bool true) := by
  have h := V.eql (P := P) (n := n) (S := S) (t := t) (u := u) hx hy
  rwa [decide_eq_true hij] at h
theorem V.eqlT {k : IntKind} {t u : TypeId} {x y : Operand} {i : Int} (hx : ev env x = some (.int k i)) (hy : ev env y = some (.int k i)) : V P n S env (.binOp .eql t x y u) (.bool true) := V.eqlE rfl hx hy
theorem V.eqlF {k : IntKind} {t u : TypeId} {x y : Operand} {i j : Int} (hij : i ≠ j) (hx : ev env x = some (.int k i)) (hy : ev env y = some (.int k j)) : V P n S env (.binOp .eql t x y u) (.bool false) := by
  have h := V.eql (P := P) (n := n) (S := S) (t := t) (u := u) hx hy
  rwa [decide_eq_false hij] at h
theorem V.neqE {k : IntKind} {t u : TypeId} {x y : Operand} {i j : Int} (hij : i = j) (hx : ev env x = some (.int k i)) (hy : ev env y = some (.int k j)) : V P n S env (.binOp .neq t x y u) (.bool false) := by
  have h := V.neq (P := P) (n := n) (S := S) (t := t) (u := u) hx hy
  rwa [decide_eq_true hij] at h
theorem V.neqF {k : IntKind} {t u : TypeId} {x y : Operand} {i : Int} (hx : ev env x = some (.int k i)) (hy : ev env y = some (.int k i)) : V P n S env (.binOp .neq t x y u) (.bool false) := V.neqE rfl hx hy
theorem V.neqT {k : IntKind} {t u : TypeId} {x y : Operand} {i j : Int} (hij : i ≠ j) (hx : ev env x = some (.int k i)) (hy : ev env y = some (.int k j)) : V P n S env (.binOp .neq t x y u) (.bool true) := by
  have h := V.neq (P := P) (n := n) (S := S) (t := t) (u := u) hx hy
  rwa [decide_eq_false hij] at h
theorem V.lssT {k : IntKind} {t u : TypeId} {x y : Operand} {i j : Int} (hij : i < j) (hx : ev env x = some (.int k i)) (hy : ev env y = some (.int k j)) : V P n S env (.binOp .lss t x y u) (.bool true) := by
  have h := V.lss (P := P) (n := n) (S := S) (t := t) (u := u) hx hy
  rwa [decide_eq_true hij] at h
theorem V.beqlT {t u : TypeId} {x y : Operand} {i : Bool} (hk : P.underlying t = some .bool) (hx : ev env x = some (.bool i)) (hy : ev env y = some (.bool i)) : V P n S env (.binOp .eql t x y u) (.bool true) := by
  have h := V.beql (P := P) (n := n) (S := S) (t := t) (u := u) hk hx hy
  rwa [beq_self_eq_true] at h
theorem V.bneq {t u : TypeId} {x y : Operand} {i j : Bool} (hk : P.underlying t = some .bool) (hx : ev env x = some (.bool i)) (hy : ev env y = some (.bool j)) : V P n S env (.binOp .neq t x y u) (.bool (!(i == j))) :=
  ⟨fun o a w ho hf _ => by unfold execOp; rw [ho]; simp [hf.ev hx, hf.ev hy, binOp, eqGuard, Op.equal, Op.maxDepth, run_equalIn_bool' w 9999 t i j hk]⟩
theorem V.addE {t u : TypeId} {x y : Operand} {i j K : Int} (hK : i + j = K) (hr : -9223372036854775808 ≤ K ∧ K ≤ 9223372036854775807) (hx : ev env x = some (intV i)) (hy : ev env y = some (intV j)) : V P n S env (.binOp .add t x y u) (intV K) := by
  subst hK
  exact V.add hx hy hr
theorem V.max {tys : Array TypeId} {x y : Operand} {i j M : Int} (hM : (if j > i then j else i) = M) (hx : ev env x = some (intV i)) (hy : ev env y = some (intV j)) : V P n S env (.call { callee := .builtin .max, args := #[x, y], argTypes := tys }) (intV M) :=
  ⟨fun o a w ho hf _ => by
    subst hM
    unfold execOp; rw [ho]
    simp [hf.ev hx, hf.ev hy, resolve, invoke, builtin, Builtin.max_, Builtin.max2]⟩
theorem V.min {tys : Array TypeId} {x y : Operand} {i j M : Int} (hM : (if j < i then j else i) = M) (hx : ev env x = some (intV i)) (hy : ev env y = some (intV j)) : V P n S env (.call { callee := .builtin .min, args := #[x, y], argTypes := tys }) (intV M) :=
  ⟨fun o a w ho hf _ => by
    subst hM
    unfold execOp; rw [ho]
    simp [hf.ev hx, hf.ev hy, resolve, invoke, builtin, Builtin.min_, Builtin.min2]⟩
end
section
variable {P : Program} {n : FK} {w0 : World} {H0 H HS : Hp} {Q : Exit → Act → World → Prop} {env : List (Nat × Value)} {L LS : List Loc} {ops rest : List Oper} {K : Act → World → Prop} {k : Nat} {ex : List Nat} {fuel : Nat} {ok : Bool}
theorem TL.callE {d : Nat} {f : FuncId} {args : Array Operand} {tys : Array TypeId} {ty : TypeId} {pos : String} {after : Array Edge} {g : Option (Nat × Bool)} {vs : List Value} {v : Value} (us : List Value)
    (hcall : ∀ (args : Array Value) (w : World), (callFunc f args).run P w = .ok (.enter f args) w) (hn : Nat.blt d n.n = true)
    (hw : want ops env ⟨some d, .call { callee := .value (.func f), args := args, argTypes := tys }, ty, pos, after, g⟩ = some true) (hargs : evs env args.toList = some vs) (he : vs = us)
    (hc : ∀ w, St w0 H0 H L w → Calls P f us.toArray w (Ret w v)) (h : TL P n w0 H0 ops Q rest ((d, v) :: env) H L) :
    TL P n w0 H0 ops Q (⟨some d, .call { callee := .value (.func f), args := args, argTypes := tys }, ty, pos, after, g⟩ :: rest) env H L := by
  subst he
  exact TL.call0 hcall hn hw hargs hc h
theorem GT.callE {f : FuncId} (us : List Value) (hcall : ∀ (args : Array Value) (w : World), (callFunc f args).run P w = .ok (.enter f args) w) {d : Nat} {args : Array Operand} {tys : Array TypeId} {ty : TypeId} {pos : String} {after : Array Edge} {g : Option (Nat × Bool)} {vs : List Value} {v : Value}
    (hi : ops[k]? = some ⟨some d, .call { callee := .value (.func f), args := args, argTypes := tys }, ty, pos, after, g⟩) (hm : mqAt ops k = true) (hn : Nat.blt d n.n = true)
    (hw : want ops env ⟨some d, .call { callee := .value (.func f), args := args, argTypes := tys }, ty, pos, after, g⟩ = some true) (hargs : evs env args.toList = some vs) (he : vs = us)
    (hcc : ∀ w, St w0 H0 HS LS w → Calls P f us.toArray w (Ret w v)) (hc : chk ops k ex = true)
    (h : GT P n w0 H0 ops K HS LS true fuel (k + 1) ex ((d, v) :: env) H L) : GT P n w0 H0 ops K HS LS true (fuel + 1) k ex env H L := by
  subst he
  exact GT.call0 hcall hi hm hn hw hargs hcc hc h
end
/-! ### sub-slices -/
section
variable {α : Type} [Enc α] {H : Hp}
/-- 's[:i]': the first i elements, and the room behind them. -/
def Slc.to (s : Slc α) (i : Nat) : Slc α := ⟨s.A, i, s.cap, s.els.take i⟩
theorem Slc.Good.to {s : Slc α} (h : s.Good H) {i : Nat} (hi : i ≤ s.len) : (s.to i).Good H := by
  have hlen := h.len
  have hcap := h.cap
  have hbig := h.big
  refine ⟨by simp [Slc.to, hlen, hi], by simp only [Slc.to]; omega, hbig, fun h0 => h.at_ (by simp only [Slc.to] at h0; omega), fun k x hk => ?_, fun x hx => h.els x (List.mem_of_mem_take hx)⟩
  have hk' : s.els[k]? = some x := by
    have : (s.els.take i)[k]? = some x := hk
    rw [List.getElem?_take] at this
    split at this
    · exact this
    · cases this
  exact h.cells k x hk'
variable {P : Program} {n : FK} {S : World → Prop} {env : List (Nat × Value)}
theorem V.sliceTo [Tys P] {t e : TypeId} {x y : Operand} {s : Slc α} {i : Int} {k ke : TyK} {q : IntKind} (hk : tyk P t = some k) (hd : k.desc = .slice e) (hke : tyk P e = some ke) (hx : ev env x = some s.v) (hy : ev env y = some (.int q i)) (hi : 0 ≤ i ∧ i ≤ s.len) (hc : s.len ≤ s.cap) :
    V P n S env (.slice t x none (some y) none) (s.to i.toNat).v :=
  ⟨fun o A w ho hf _ => by
    obtain ⟨d, hu, hf'⟩ := (tyk_ok hk).und
    rw [hd] at hf'
    simp only [TyD.fits] at hf'
    subst hf'
    have h1 := run_bound (P := P) (w := w) (k := q) (i := i) (j := i.toNat) (y := s.cap) (c := .sliceAcap) (by omega) (by omega)
    unfold execOp; rw [ho]
    simp [hf.ev hx, hf.ev hy, Instr.sliceAt, Instr.slice, Instr.sliceBounds, run_underlying hu, h1, (tyk_ok hke).sizeOf w, Slc.to]
    cases s.A <;> simp [Addr.add]⟩
end
/-! ### functions as values -/
theorem run_equalIn_funcNil {P : Program} (w : World) (d : Nat) (t : TypeId) {ps rs : Array TypeId} {va : Bool} (fn : Fn) (a c : Array Value) (h : P.underlying t = some (.func ps rs va)) : (Op.equalIn (d + 1) t (.func fn a c) .nilFunc).run P w = .ok false w := by
  simp [Op.equalIn, run_underlying h]
theorem run_equalIn_nilNil {P : Program} (w : World) (d : Nat) (t : TypeId) {ps rs : Array TypeId} {va : Bool} (h : P.underlying t = some (.func ps rs va)) : (Op.equalIn (d + 1) t .nilFunc .nilFunc).run P w = .ok true w := by
  simp [Op.equalIn, run_underlying h]
section
variable {P : Program} {n : FK} {S : World → Prop} {env : List (Nat × Value)}
theorem V.funcNil {t u : TypeId} {x y : Operand} {ps rs : Array TypeId} {va : Bool} {fn : Fn} {a c : Array Value} (hk : P.underlying t = some (.func ps rs va)) (hx : ev env x = some (.func fn a c)) (hy : ev env y = some .nilFunc) : V P n S env (.binOp .neq t x y u) (.bool true) :=
  ⟨fun o A w ho hf _ => by
    unfold execOp; rw [ho]
    simp [hf.ev hx, hf.ev hy, binOp, eqGuard, Op.equal, Op.maxDepth, run_equalIn_funcNil w 9999 t fn a c hk]⟩
theorem V.nilNil {t u : TypeId} {x y : Operand} {ps rs : Array TypeId} {va : Bool} (hk : P.underlying t = some (.func ps rs va)) (hx : ev env x = some .nilFunc) (hy : ev env y = some .nilFunc) : V P n S env (.binOp .neq t x y u) (.bool false) :=
  ⟨fun o A w ho hf _ => by
    unfold execOp; rw [ho]
    simp [hf.ev hx, hf.ev hy, binOp, eqGuard, Op.equal, Op.maxDepth, run_equalIn_nilNil w 9999 t hk]⟩
end
end Go.Proofs.YtfbhcemlnojejaaDoor
namespace Go.Proofs.YtfbhcemlnojejaaDoor
set_option linter.unusedVariables false
set_option linter.unusedSimpArgs false
open Go Go.RowKit
/-! ### regions that draw their order, and write -/
section
variable {P : Program} {n : FK} {w0 : World} {H0 HS H : Hp} {K : Act → World → Prop} {Q : Exit → Act → World → Prop} {env : List (Nat × Value)} {LS L : List Loc} {ops : List Oper} {ok : Bool} {fuel k : Nat} {ex : List Nat}
/-- What is read is among LS alone; the rest may be written. -/
theorem T.regionDS {id : Nat} (LS : List Loc) (hm : P.follows .mixedOrders = true) (hnd : ops.all nd = true) (hL : List.Sublist LS L) (h : GT P n w0 H0 ops (fun a w => Q .normal a w) H LS true ops.length 0 [] env H L) : T P n w0 H0 (.region id ops.toArray true) Q env H L :=
  ⟨fun a w hf hs => by
    have hd : St w0 H0 H L { w with drawn := w.drawn + 1 } := hs.drew
    have h1 := (h.out (by rw [← marks_none]; exact closed_none _ _) a _ hf hd (fun _ => hd.sub hL)).any
    rw [← marks_none] at h1
    refine wpIn_mono (wpIn_region_any (Q := Norm fun a w => Q .normal a w) hm (any_bridge (by simpa using hnd) (by simpa using h1))) fun e a' w' hh => ?_
    obtain ⟨rfl, hh⟩ := hh
    exact hh⟩
theorem GS.effS {j : Nat} {o : Oper} {gr : Bool} {G' : Type} {φ : G' → Prop} {E : G' → List (Nat × Value)} {HH : G' → Hp} {LL : G' → List Loc} (hi : ops[j]? = some o) (hw : want ops env o = some true) (hx : X P n w0 H0 env H L o gr φ E HH LL) (hH : ∀ g, HH g = HS) (hL : ∀ g, List.Sublist LS (LL g))
    (h : ∀ g, φ g → GT P n w0 H0 ops K HS LS true fuel k (j :: ex) (E g) (HH g) (LL g)) : GS P n w0 H0 ops K HS LS ok fuel k ex env H L j :=
  ⟨fun hcl a w hf hs hk => by
    unfold wpOp
    have hi' : ops.toArray[j]? = some o := by simpa using hi
    simp only [hi']
    rw [want_spec hf hw, if_pos rfl]
    refine .inl (hx.out a w hf hs _ _ fun g a' w' hg hb hf' hs' => ?_)
    have hk' : St w0 H0 HS LS w' := by
      have h1 := hs'.sub (hL g)
      rw [hH g] at h1
      exact h1
    exact ⟨fun i _ _ _ _ => hk', (h g hg).out hcl a' w' hf' hs' fun _ => hk'⟩⟩
end
end Go.Proofs.YtfbhcemlnojejaaDoor
