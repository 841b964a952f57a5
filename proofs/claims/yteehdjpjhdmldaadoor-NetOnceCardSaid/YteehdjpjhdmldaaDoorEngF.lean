/-
  The engine: ranges over functions: the statement, its rounds, the function's way out.
-/
import Derived.Test.YteehdjpjhdmldaaDoorEngW
import Derived.RangeFuncSeq
namespace Go.Proofs.YteehdjpjhdmldaaDoor
set_option linter.unusedVariables false
set_option linter.unusedSimpArgs false
open Go Go.RowKit

section
variable {P : Program} {n : FK} {w0 : World} {H0 H : Hp} {Q : Exit → Act → World → Prop} {env : List (Nat × Value)} {L : List Loc} {ops rest : List Oper}
theorem St.putObj {w : World} (hs : St w0 H0 H L w) {i l : Nat} {o : Obj} (o' : Obj) (hi : L[i]? = some (.any l o)) : St w0 H0 H (L.set i (.any l o')) (w.putObj l o') := by
  have h := hs.ok _ (List.mem_of_getElem? hi)
  have hlt : l < w.heap.size := (Array.getElem?_eq_some_iff.1 h.2).1
  exact hs.set hi rfl rfl (fun k hk => World.putObj_heap_other hk) World.putObj_size rfl rfl rfl ⟨h.1, World.putObj_heap_same hlt⟩
def recd (fn : FuncId) (tmps : Array Value) (ps : Array Tmp) (assign body : Code) (b : Nat) (st : LoopState) (pe : Option Code) : Loop :=
  { state := st, pending := pe, fn := fn, tmps := tmps, params := ps, assign := assign, body := body, defers := b }
/-- The jump that waits behind the statement, by the way in which a round was left. -/
def jumpOf : Exit → Option Code
  | .ret => some .ret
  | .exit id => some (.exit id)
  | _ => none
def Exit.fine : Exit → Prop
  | .normal | .ret | .exit _ => True
  | _ => False
/-- The statement 'for .. := range f', outermost. -/
theorem T.rangeFunc {m : Nat} {gop : Operand} {ps : Array Tmp} {assign body : Code} {f : FuncId} {first cap : Array Value} {G : Type} (ex : G → Exit) (HH : G → Hp) (LL : G → List Loc) (φ : G → Prop)
    (hg : ev env gop = some (.func (.func f) first cap)) (hcall : ∀ (args : Array Value) (w : World), (callFunc f args).run P w = .ok (.enter f args) w) (hex : ∀ g, φ g → Exit.fine (ex g))
    (hit : ∀ (fn : FuncId) (a : Act) (b : Nat), Fr ⟨m, [], none⟩ env a → ∀ w, St w0 H0 H (.any (b + 1) (.loop (recd fn a.tmps ps assign body b .ready none)) :: .any b (.deferred (some [])) :: L) w →
      CallsIn (FW none) 0 P f (first ++ #[.func (.yield (b + 1)) #[] #[]] ++ cap) w (fun e w' => ∃ g v st, e = .returned v ∧ φ g ∧ st ≠ .busy ∧ St w0 H0 (HH g) (.any (b + 1) (.loop (recd fn a.tmps ps assign body b st (jumpOf (ex g)))) :: .any b (.deferred (some [])) :: LL g) w'))
    (hn : ∀ b g, φ g → N ⟨m, [{ target := .collected b, args := #[] }], none⟩ w0 H0 Q (ex g) env (HH g) (.any b (.deferred (some [])) :: LL g)) :
    T P ⟨m, [], none⟩ w0 H0 (.rangeFunc gop ps assign body) Q env H L := by
  refine ⟨fun a w hf hs => wpIn_rangeFunc fun fn _ => ?_⟩
  have hga := hf.ev hg
  obtain ⟨W1, hW1⟩ : ∃ W1, W1 = (w.alloc (.deferred (some []))).alloc (.loop (recd fn a.tmps ps assign body w.heap.size .ready none)) := ⟨_, rfl⟩
  refine ⟨w.heap.size + 1, [{ target := .collected w.heap.size, args := #[] }], W1, { target := .fn (.func f) cap, args := first ++ #[.func (.yield (w.heap.size + 1)) #[] #[]] }, W1, f, first ++ #[.func (.yield (w.heap.size + 1)) #[] #[]] ++ cap, W1, by rw [hW1]; exact run_enterLoop_outer _ _ _ _ _, ?_, fun _ _ => trivial, ?_, fun h => by simp [FW, Fence.wide] at h, ?_⟩
  · simp only [resolve, hga]
    simp [Deferred.ofValue, Act.eval]
  · simp [invoke, hcall]
  · have h1 := hs.alloc (e := .any w.heap.size (.deferred (some []))) (o := .deferred (some [])) rfl ⟨hs.below.size, World.alloc_heap_new _ _⟩
    have h2 := h1.alloc (e := .any (w.heap.size + 1) (.loop (recd fn a.tmps ps assign body w.heap.size .ready none))) (o := .loop (recd fn a.tmps ps assign body w.heap.size .ready none)) (by simp [Loc.at]) ⟨Nat.le_trans hs.below.size (Nat.le_succ _), by
      have := World.alloc_heap_new (w.alloc (.deferred (some []))) (.loop (recd fn a.tmps ps assign body w.heap.size .ready none))
      rwa [World.size_alloc] at this⟩
    rw [← hW1] at h2
    refine (hit fn a w.heap.size hf _ h2).mono ?_
    rintro e w' ⟨g, v, st, rfl, hφ, hst, hw⟩
    have hrec := (hw.ok _ (List.Mem.head _)).2
    have hw' := hw.putObj (i := 0) (.loop (recd fn a.tmps ps assign body w.heap.size .exhausted (jumpOf (ex g)))) rfl
    have hfr : Fr ⟨m, [{ target := .collected w.heap.size, args := #[] }], none⟩ env { a with defers := [{ target := .collected w.heap.size, args := #[] }] ++ a.defers } :=
      ⟨by simp [hf.defers], hf.size, hf.vals⟩
    have hN := (hn w.heap.size g hφ).out _ _ hfr (hw'.sub (List.sublist_cons_self _ _))
    refine ⟨jumpOf (ex g), _, run_endLoop hrec (by simpa [recd] using hst), ?_⟩
    have hx := hex g hφ
    cases hxe : ex g with
    | normal => simp only [jumpOf]; simp only [hxe] at hN; exact hN
    | ret => simp only [jumpOf]; simp only [hxe] at hN; exact wpIn_ret hN
    | exit id => simp only [jumpOf]; simp only [hxe] at hN; exact wpIn_exit hN
    | goto l => rw [hxe] at hx; exact hx.elim
    | panic c => rw [hxe] at hx; exact hx.elim
    | outgrown => rw [hxe] at hx; exact hx.elim
/-- A call of yield: what a round leaves. -/
theorem TL.yield {d : Nat} {x : Operand} {args : Array Operand} {tys : Array TypeId} {ty : TypeId} {pos : String} {after : Array Edge} {g : Option (Nat × Bool)} {rl : Nat} {vs : List Value} {G : Type} {φ : Bool → G → Prop} {HH : G → Hp} {LL : G → List Loc} (hn : Nat.blt d n.n = true)
    (hw : want ops env ⟨some d, .call { callee := .value x, args := args, argTypes := tys }, ty, pos, after, g⟩ = some true) (hx : ev env x = some (.func (.yield rl) #[] #[])) (hargs : evs env args.toList = some vs)
    (hy : ∀ w, St w0 H0 H L w → YieldAt (FW n.r) 0 P rl vs.toArray w (fun e w' => ∃ b g, e = .returned (.bool b) ∧ φ b g ∧ St w0 H0 (HH g) (LL g) w'))
    (h : ∀ b g, φ b g → TL P n w0 H0 ops Q rest ((d, .bool b) :: env) (HH g) (LL g)) :
    TL P n w0 H0 ops Q (⟨some d, .call { callee := .value x, args := args, argTypes := tys }, ty, pos, after, g⟩ :: rest) env H L :=
  TL.opIn hw fun a w hf hs => by
    refine ⟨fun _ _ => trivial, ?_⟩
    obtain ⟨fn, tmps, assign, body, hrun, hround⟩ := hy w hs
    have ha : args.map a.eval = vs.toArray := by apply Array.toList_inj.1; simpa using hf.evs hargs
    have : (execOp a.eval ⟨some d, .call { callee := .value x, args := args, argTypes := tys }, ty, pos, after, g⟩).run P w = .ok (.round rl fn tmps assign body) w := by
      unfold execOp
      simp [resolve, hf.ev hx, Deferred.ofValue, invoke, ha, hrun]
    rw [Oper.semAt_eq _ _ _ (nd_ne rfl), this]
    refine ⟨fun h => by simp [FW, Fence.wide] at h, hround.mono ?_⟩
    rintro e w' ⟨b, g', rfl, hφ, hs'⟩
    exact (h b g' hφ).out _ _ (hf.put hn _) hs'
/-- One round, out of the walks of the assignment and the body. -/
theorem yieldAt_of {m : Nat} {fn : FuncId} {a : Act} {ps : Array Tmp} {assign body : Code} {b i : Nat} {vs : Array Value} {w : World} {R : Ending → World → Prop} (hs : St w0 H0 H L w) (hi : L[i]? = some (.any (b + 1) (.loop (recd fn a.tmps ps assign body b .ready none)))) (hsz : vs.size = ps.size)
    (env₀ : List (Nat × Value)) (hE : ∀ tmps : Array Value, tmps = (ps.zip vs).foldl (fun t (p, v) => t.setIfInBounds p v) a.tmps → Fr ⟨m, [], some (b + 1)⟩ env₀ { tmps := tmps, defers := [] }) {env₁ : List (Nat × Value)}
    (hassign : T P ⟨m, [], some (b + 1)⟩ w0 H0 assign (Exit.then (fun a w => Fr ⟨m, [], some (b + 1)⟩ env₁ a ∧ St w0 H0 H L w) (fun _ _ _ => False)) env₀ H L)
    (hbody : T P ⟨m, [], some (b + 1)⟩ w0 H0 body (roundPost P (b + 1) R) env₁ H (L.set i (.any (b + 1) (.loop (recd fn a.tmps ps assign body b .busy none))))) : YieldAt (FW none) 0 P (b + 1) vs w R := by
  have hrec := (hs.ok _ (List.mem_of_getElem? hi)).2
  have hy := run_yield (P := P) (args := vs) hrec (by simpa [recd] using hsz)
  refine ⟨fn, _, assign, body, hy, roundIn_of_wpIn trivial (wpIn_mono (hassign.out _ w (hE _ rfl) hs) ?_)⟩
  rintro e a₁ w₁ hq
  cases e with
  | normal =>
    obtain ⟨hf1, hs1⟩ := hq
    have hrec1 := (hs1.ok _ (List.mem_of_getElem? hi)).2
    refine ⟨_, run_beginRound hrec1 rfl, hbody.out _ _ hf1 ?_⟩
    exact hs1.putObj (.loop (recd fn a.tmps ps assign body b .busy none)) hi
  | exit id => exact hq
  | goto l => exact hq
  | ret => exact hq
  | panic c => exact hq
  | outgrown => exact hq
theorem N.both {kk : FK} {env₁ : List (Nat × Value)} {Q' : Exit → Act → World → Prop} (h : Sub env₁ env) : N kk w0 H0 (Exit.then (fun a w => Fr kk env₁ a ∧ St w0 H0 H L w) Q') .normal env H L := ⟨fun _ _ hf hs => ⟨hf.sub h, hs⟩⟩
theorem Fr.round1 {m p : Nat} {r : Option Nat} {a : Act} {v : Value} (hf : Fr ⟨m, [], none⟩ env a) (hp : Nat.blt p m = true) : ∀ tmps : Array Value, tmps = ((#[p] : Array Tmp).zip #[v]).foldl (fun t (p, v) => t.setIfInBounds p v) a.tmps → Fr ⟨m, [], r⟩ ((p, v) :: env) { tmps := tmps, defers := [] } := by
  intro tmps ht
  have h := Fr.put (n := ⟨m, [], none⟩) hf (d := p) hp v
  refine ⟨rfl, ?_, fun t u htu => ?_⟩
  · rw [ht]; simp [hf.size]
  · rw [ht]; have := h.vals t u htu; simpa [Act.put] using this
/-- The way out of a round. -/
theorem N.round_out {fn : FuncId} {tmps : Array Value} {ps : Array Tmp} {assign body : Code} {b i : Nat} {R : Ending → World → Prop} {e : Exit} {kk : FK} (he : Exit.fine e) (hi : L[i]? = some (.any (b + 1) (.loop (recd fn tmps ps assign body b .busy none))))
    (h : ∀ w, St w0 H0 H (L.set i (.any (b + 1) (.loop (recd fn tmps ps assign body b (if (jumpOf e).isNone then .ready else .done) (jumpOf e))))) w → R (.returned (.bool (jumpOf e).isNone)) w) : N kk w0 H0 (roundPost P (b + 1) R) e env H L :=
  ⟨fun a w _ hs => by
    have hrec := (hs.ok _ (List.mem_of_getElem? hi)).2
    have fin := fun (j : Option Code) => run_endRound (P := P) j hrec
    have hput := fun (j : Option Code) => hs.putObj (.loop (recd fn tmps ps assign body b (if j.isNone then .ready else .done) j)) hi
    cases e with
    | normal => exact ⟨_, _, fin none, h _ (hput none)⟩
    | ret => exact ⟨_, _, fin (some .ret), h _ (hput (some .ret))⟩
    | exit id => exact ⟨_, _, fin (some (.exit id)), h _ (hput (some (.exit id)))⟩
    | goto l => exact he.elim
    | panic c => exact he.elim
    | outgrown => exact he.elim⟩
/-- In at any state; the function's world counts from its caller's start. -/
theorem T.enterIn {f : FuncId} {fn : Func} {c : Code} {vs : List Value} {w : World} {R : Ending → World → Prop} (hf : P.funcs[f]? = some fn) (hb : fn.body = some c) {m : Nat} (hn : fn.ntmps = m) (hl : Nat.ble vs.length m = true) (hs : St w0 H0 H L w)
    (h : T P ⟨m, [], none⟩ w0 H0 c (bodyPost P fn R) (argEnv 0 vs) H L) : CallsIn (FW none) 0 P f vs.toArray w R := by
  refine callsIn_of_wp hf hb trivial (h.out _ w ⟨rfl, ?_, fun t v hv => ?_⟩ hs)
  · have := Nat.le_of_ble_eq_true hl
    simp [hn]; omega
  · obtain ⟨_, h2⟩ := look_argEnv vs 0 t v hv
    rw [Nat.sub_zero] at h2
    have hlt : t < vs.length := (List.getElem?_eq_some_iff.1 h2).1
    rw [Array.getElem?_append_left (by simpa using hlt)]
    simpa using h2
/-- In, of a function that holds a range over a function. -/
theorem T.enterM {f : FuncId} {fn : Func} {c : Code} {vs : List Value} {w : World} {R : Ending → World → Prop} (hf : P.funcs[f]? = some fn) (hb : fn.body = some c) {m : Nat} (hn : fn.ntmps = m) (hl : Nat.ble vs.length m = true) (hs : Sat H w)
    (h : T P ⟨m, [], none⟩ w H c (bodyPostM (FW none) 0 P fn R) (argEnv 0 vs) H []) : Calls P f vs.toArray w R := by
  refine callsFW' (r := none) (callsIn_of_wp_marks hf hb trivial (h.out _ w ⟨rfl, ?_, fun t v hv => ?_⟩ (St.start w H hs)))
  · have := Nat.le_of_ble_eq_true hl
    simp [hn]; omega
  · obtain ⟨_, h2⟩ := look_argEnv vs 0 t v hv
    rw [Nat.sub_zero] at h2
    have hlt : t < vs.length := (List.getElem?_eq_some_iff.1 h2).1
    rw [Array.getElem?_append_left (by simpa using hlt)]
    simpa using h2
/-- The way out, with nothing deferred. -/
theorem N.bare {m : Nat} {ro : Option Nat} {fn : Func} {R : Ending → World → Prop} (h : N ⟨m, [], ro⟩ w0 H0 (bodyPost P fn R) .ret env H L) : N ⟨m, [], ro⟩ w0 H0 (bodyPostM (FW none) 0 P fn R) .ret env H L :=
  ⟨fun a w hf hs => by
    obtain ⟨_, v, hr, hR⟩ := h.out a w hf hs
    show LeavesInM _ _ _ _ _ _ a.defers _ _
    rw [hf.defers]
    exact ⟨v, hr, hR⟩⟩
/-- .. with the mark of a range over a function. -/
theorem N.marked {m b i : Nat} {ro : Option Nat} {fn : Func} {R : Ending → World → Prop} (hi : L[i]? = some (.any b (.deferred (some []))))
    (h : N ⟨m, [], ro⟩ w0 H0 (bodyPost P fn R) .ret env H (L.set i (.any b (.deferred none)))) : N ⟨m, [{ target := .collected b, args := #[] }], ro⟩ w0 H0 (bodyPostM (FW none) 0 P fn R) .ret env H L :=
  ⟨fun a w hf hs => by
    have hd := (hs.ok _ (List.mem_of_getElem? hi)).2
    obtain ⟨_, v, hr, hR⟩ := h.out { a with defers := [] } _ ⟨rfl, hf.size, hf.vals⟩ (hs.putObj (.deferred none) hi)
    show LeavesInM _ _ _ _ _ _ a.defers _ _
    rw [hf.defers]
    exact ⟨by simp, .inl ⟨b, _, rfl, run_takeDeferred hd, ⟨v, hr, hR⟩⟩⟩⟩
end
end Go.Proofs.YteehdjpjhdmldaaDoor
