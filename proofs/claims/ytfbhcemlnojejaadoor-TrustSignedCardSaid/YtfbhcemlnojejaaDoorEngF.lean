/-
  The engine: ranges over functions: the statement, its rounds, the function's way out.
-/
import Derived.Test.YtfbhcemlnojejaaDoorEngR
import Derived.RangeFuncSeq
namespace Go.Proofs.YtfbhcemlnojejaaDoor
set_option linter.unusedVariables false
set_option linter.unusedSimpArgs false
open Go Go.RowKit
open Enc (enc)

section
variable {P : Program} {n : FK} {w0 : World} {H0 H : Hp} {Q : Exit → Act → World → Prop} {env : List (Nat × Value)} {L : List Loc} {ops rest : List Oper}
theorem St.putObj {w : World} (hs : St w0 H0 H L w) {i l : Nat} {o : Obj} (o' : Obj) (hi : L[i]? = some (.any l o)) : St w0 H0 H (L.set i (.any l o')) (w.putObj l o') := by
  have h := hs.ok _ (List.mem_of_getElem? hi)
  have hlt : l < w.heap.size := (Array.getElem?_eq_some_iff.1 h.2).1
  exact hs.set hi rfl rfl (fun k hk => World.putObj_heap_other hk) World.putObj_size rfl rfl rfl ⟨h.1, World.putObj_heap_same hlt⟩
def recd (fn : FuncId) (tmps : Array Value) (ps : Array Tmp) (assign body : Code) (b : Nat) (st : LoopState) (pe : Option Code) : Loop :=
  { state := st, pending := pe, fn := fn, tmps := tmps, params := ps, assign := assign, body := body, defers := b }
/-- The jump that waits behind the statement, by the way in which a round was left. -/
def jumpOf : Exit → Option Code
  | .ret => some .ret
  | .exit id => some (.exit id)
  | _ => none
def Exit.fine : Exit → Prop
  | .normal | .ret | .exit _ => True
  | _ => False
/-- The statement 'for .. := range f', outermost. -/
theorem T.rangeFunc {m : Nat} {gop : Operand} {ps : Array Tmp} {assign body : Code} {f : FuncId} {first cap : Array Value} {G : Type} (ex : G → Exit) (HH : G → Hp) (LL : G → List Loc) (φ : G → Prop)
    (hg : ev env gop = some (.func (.func f) first cap)) (hcall : ∀ (args : Array Value) (w : World), (callFunc f args).run P w = .ok (.enter f args) w) (hex : ∀ g, φ g → Exit.fine (ex g))
    (hit : ∀ (fn : FuncId) (a : Act) (b : Nat), Fr ⟨m, [], none⟩ env a → ∀ w, St w0 H0 H (.any (b + 1) (.loop (recd fn a.tmps ps assign body b .ready none)) :: .any b (.deferred (some [])) :: L) w →
      CallsIn (FW none) 0 P f (first ++ #[.func (.yield (b + 1)) #[] #[]] ++ cap) w (fun e w' => ∃ g v st, e = .returned v ∧ φ g ∧ st ≠ .busy ∧ St w0 H0 (HH g) (.any (b + 1) (.loop (recd fn a.tmps ps assign body b st (jumpOf (ex g)))) :: .any b (.deferred (some [])) :: LL g) w'))
    (hn : ∀ b g, φ g → N ⟨m, [{ target := .collected b, args := #[] }], none⟩ w0 H0 Q (ex g) env (HH g) (.any b (.deferred (some [])) :: LL g)) :
    T P ⟨m, [], none⟩ w0 H0 (.rangeFunc gop ps assign body) Q env H L := by
  refine ⟨fun a w hf hs => wpIn_rangeFunc fun fn _ => ?_⟩
  have hga := hf.ev hg
  obtain ⟨W1, hW1⟩ : ∃ W1, W1 = (w.alloc (.deferred (some []))).alloc (.loop (recd fn a.tmps ps assign body w.heap.size .ready none)) := ⟨_, rfl⟩
  refine ⟨w.heap.size + 1, [{ target := .collected w.heap.size, args := #[] }], W1, { target := .fn (.func f) cap, args := first ++ #[.func (.yield (w.heap.size + 1)) #[] #[]] }, W1, f, first ++ #[.func (.yield (w.heap.size + 1)) #[] #[]] ++ cap, W1, by rw [hW1]; exact run_enterLoop_outer _ _ _ _ _, ?_, fun _ _ => trivial, ?_, fun h => by simp [FW, Fence.wide] at h, ?_⟩
  · simp only [resolve, hga]
    simp [Deferred.ofValue, Act.eval]
  · simp [invoke, hcall]
  · have h1 := hs.alloc (e := .any w.heap.size (.deferred (some []))) (o := .deferred (some [])) rfl ⟨hs.below.size, World.alloc_heap_new _ _⟩
    have h2 := h1.alloc (e := .any (w.heap.size + 1) (.loop (recd fn a.tmps ps assign body w.heap.size .ready none))) (o := .loop (recd fn a.tmps ps assign body w.heap.size .ready none)) (by simp [Loc.at]) ⟨Nat.le_trans hs.below.size (Nat.le_succ _), by
      have := World.alloc_heap_new (w.alloc (.deferred (some []))) (.loop (recd fn a.tmps ps assign body w.heap.size .ready none))
      rwa [World.size_alloc] at this⟩
    rw [← hW1] at h2
    refine (hit fn a w.heap.size hf _ h2).mono ?_
    rintro e w' ⟨g, v, st, rfl, hφ, hst, hw⟩
    have hrec := (hw.ok _ (List.Mem.head _)).2
    have hw' := hw.putObj (i := 0) (.loop (recd fn a.tmps ps assign body w.heap.size .exhausted (jumpOf (ex g)))) rfl
    have hfr : Fr ⟨m, [{ target := .collected w.heap.size, args := #[] }], none⟩ env { a with defers := [{ target := .collected w.heap.size, args := #[] }] ++ a.defers } :=
      ⟨by simp [hf.defers], hf.size, hf.vals⟩
    have hN := (hn w.heap.size g hφ).out _ _ hfr (hw'.sub (List.sublist_cons_self _ _))
    refine ⟨jumpOf (ex g), _, run_endLoop hrec (by simpa [recd] using hst), ?_⟩
    have hx := hex g hφ
    cases hxe : ex g with
    | normal => simp only [jumpOf]; simp only [hxe] at hN; exact hN
    | ret => simp only [jumpOf]; simp only [hxe] at hN; exact wpIn_ret hN
    | exit id => simp only [jumpOf]; simp only [hxe] at hN; exact wpIn_exit hN
    | goto l => rw [hxe] at hx; exact hx.elim
    | panic c => rw [hxe] at hx; exact hx.elim
    | outgrown => rw [hxe] at hx; exact hx.elim
/-- A call of yield: what a round leaves. -/
theorem TL.yield {d : Nat} {x : Operand} {args : Array Operand} {tys : Array TypeId} {ty : TypeId} {pos : String} {after : Array Edge} {g : Option (Nat × Bool)} {rl : Nat} {vs : List Value} {G : Type} {φ : Bool → G → Prop} {HH : G → Hp} {LL : G → List Loc} (hn : Nat.blt d n.n = true)
    (hw : want ops env ⟨some d, .call { callee := .value x, args := args, argTypes := tys }, ty, pos, after, g⟩ = some true) (hx : ev env x = some (.func (.yield rl) #[] #[])) (hargs : evs env args.toList = some vs)
    (hy : ∀ w, St w0 H0 H L w → YieldAt (FW n.r) 0 P rl vs.toArray w (fun e w' => ∃ b g, e = .returned (.bool b) ∧ φ b g ∧ St w0 H0 (HH g) (LL g) w'))
    (h : ∀ b g, φ b g → TL P n w0 H0 ops Q rest ((d, .bool b) :: env) (HH g) (LL g)) :
    TL P n w0 H0 ops Q (⟨some d, .call { callee := .value x, args := args, argTypes := tys }, ty, pos, after, g⟩ :: rest) env H L :=
  TL.opIn hw fun a w hf hs => by
    refine ⟨fun _ _ => trivial, ?_⟩
    obtain ⟨fn, tmps, assign, body, hrun, hround⟩ := hy w hs
    have ha : args.map a.eval = vs.toArray := by apply Array.toList_inj.1; simpa using hf.evs hargs
    have : (execOp a.eval ⟨some d, .call { callee := .value x, args := args, argTypes := tys }, ty, pos, after, g⟩).run P w = .ok (.round rl fn tmps assign body) w := by
      unfold execOp
      simp [resolve, hf.ev hx, Deferred.ofValue, invoke, ha, hrun]
    rw [Oper.semAt_eq _ _ _ (nd_ne rfl), this]
    refine ⟨fun h => by simp [FW, Fence.wide] at h, hround.mono ?_⟩
    rintro e w' ⟨b, g', rfl, hφ, hs'⟩
    exact (h b g' hφ).out _ _ (hf.put hn _) hs'
/-- One round, out of the walks of the assignment and the body. -/
theorem yieldAt_of {m : Nat} {fn : FuncId} {a : Act} {ps : Array Tmp} {assign body : Code} {b i : Nat} {vs : Array Value} {w : World} {R : Ending → World → Prop} (hs : St w0 H0 H L w) (hi : L[i]? = some (.any (b + 1) (.loop (recd fn a.tmps ps assign body b .ready none)))) (hsz : vs.size = ps.size)
    (env₀ : List (Nat × Value)) (hE : ∀ tmps : Array Value, tmps = (ps.zip vs).foldl (fun t (p, v) => t.setIfInBounds p v) a.tmps → Fr ⟨m, [], some (b + 1)⟩ env₀ { tmps := tmps, defers := [] }) {env₁ : List (Nat × Value)}
    (hassign : T P ⟨m, [], some (b + 1)⟩ w0 H0 assign (Exit.then (fun a w => Fr ⟨m, [], some (b + 1)⟩ env₁ a ∧ St w0 H0 H L w) (fun _ _ _ => False)) env₀ H L)
    (hbody : T P ⟨m, [], some (b + 1)⟩ w0 H0 body (roundPost P (b + 1) R) env₁ H (L.set i (.any (b + 1) (.loop (recd fn a.tmps ps assign body b .busy none))))) : YieldAt (FW none) 0 P (b + 1) vs w R := by
  have hrec := (hs.ok _ (List.mem_of_getElem? hi)).2
  have hy := run_yield (P := P) (args := vs) hrec (by simpa [recd] using hsz)
  refine ⟨fn, _, assign, body, hy, roundIn_of_wpIn trivial (wpIn_mono (hassign.out _ w (hE _ rfl) hs) ?_)⟩
  rintro e a₁ w₁ hq
  cases e with
  | normal =>
    obtain ⟨hf1, hs1⟩ := hq
    have hrec1 := (hs1.ok _ (List.mem_of_getElem? hi)).2
    refine ⟨_, run_beginRound hrec1 rfl, hbody.out _ _ hf1 ?_⟩
    exact hs1.putObj (.loop (recd fn a.tmps ps assign body b .busy none)) hi
  | exit id => exact hq
  | goto l => exact hq
  | ret => exact hq
  | panic c => exact hq
  | outgrown => exact hq
theorem N.both {kk : FK} {env₁ : List (Nat × Value)} {Q' : Exit → Act → World → Prop} (h : Sub env₁ env) : N kk w0 H0 (Exit.then (fun a w => Fr kk env₁ a ∧ St w0 H0 H L w) Q') .normal env H L := ⟨fun _ _ hf hs => ⟨hf.sub h, hs⟩⟩
theorem Fr.round1 {m p : Nat} {r : Option Nat} {a : Act} {v : Value} (hf : Fr ⟨m, [], none⟩ env a) (hp : Nat.blt p m = true) : ∀ tmps : Array Value, tmps = ((#[p] : Array Tmp).zip #[v]).foldl (fun t (p, v) => t.setIfInBounds p v) a.tmps → Fr ⟨m, [], r⟩ ((p, v) :: env) { tmps := tmps, defers := [] } := by
  intro tmps ht
  have h := Fr.put (n := ⟨m, [], none⟩) hf (d := p) hp v
  refine ⟨rfl, ?_, fun t u htu => ?_⟩
  · rw [ht]; simp [hf.size]
  · rw [ht]; have := h.vals t u htu; simpa [Act.put] using this
/-- The way out of a round. -/
theorem N.round_out {fn : FuncId} {tmps : Array Value} {ps : Array Tmp} {assign body : Code} {b i : Nat} {R : Ending → World → Prop} {e : Exit} {kk : FK} (he : Exit.fine e) (hi : L[i]? = some (.any (b + 1) (.loop (recd fn tmps ps assign body b .busy none))))
    (h : ∀ w, St w0 H0 H (L.set i (.any (b + 1) (.loop (recd fn tmps ps assign body b (if (jumpOf e).isNone then .ready else .done) (jumpOf e))))) w → R (.returned (.bool (jumpOf e).isNone)) w) : N kk w0 H0 (roundPost P (b + 1) R) e env H L :=
  ⟨fun a w _ hs => by
    have hrec := (hs.ok _ (List.mem_of_getElem? hi)).2
    have fin := fun (j : Option Code) => run_endRound (P := P) j hrec
    have hput := fun (j : Option Code) => hs.putObj (.loop (recd fn tmps ps assign body b (if j.isNone then .ready else .done) j)) hi
    cases e with
    | normal => exact ⟨_, _, fin none, h _ (hput none)⟩
    | ret => exact ⟨_, _, fin (some .ret), h _ (hput (some .ret))⟩
    | exit id => exact ⟨_, _, fin (some (.exit id)), h _ (hput (some (.exit id)))⟩
    | goto l => exact he.elim
    | panic c => exact he.elim
    | outgrown => exact he.elim⟩
/-- In at any state; the function's world counts from its caller's start. -/
theorem T.enterIn {f : FuncId} {fn : Func} {c : Code} {vs : List Value} {w : World} {R : Ending → World → Prop} (hf : P.funcs[f]? = some fn) (hb : fn.body = some c) {m : Nat} (hn : fn.ntmps = m) (hl : Nat.ble vs.length m = true) (hs : St w0 H0 H L w)
    (h : T P ⟨m, [], none⟩ w0 H0 c (bodyPost P fn R) (argEnv 0 vs) H L) : CallsIn (FW none) 0 P f vs.toArray w R := by
  refine callsIn_of_wp hf hb trivial (h.out _ w ⟨rfl, ?_, fun t v hv => ?_⟩ hs)
  · have := Nat.le_of_ble_eq_true hl
    simp [hn]; omega
  · obtain ⟨_, h2⟩ := look_argEnv vs 0 t v hv
    rw [Nat.sub_zero] at h2
    have hlt : t < vs.length := (List.getElem?_eq_some_iff.1 h2).1
    rw [Array.getElem?_append_left (by simpa using hlt)]
    simpa using h2
/-- In, of a function that holds a range over a function. -/
theorem T.enterM {f : FuncId} {fn : Func} {c : Code} {vs : List Value} {w : World} {R : Ending → World → Prop} (hf : P.funcs[f]? = some fn) (hb : fn.body = some c) {m : Nat} (hn : fn.ntmps = m) (hl : Nat.ble vs.length m = true) (hs : Sat H w)
    (h : T P ⟨m, [], none⟩ w H c (bodyPostM (FW none) 0 P fn R) (argEnv 0 vs) H []) : Calls P f vs.toArray w R := by
  refine callsFW' (r := none) (callsIn_of_wp_marks hf hb trivial (h.out _ w ⟨rfl, ?_, fun t v hv => ?_⟩ (St.start w H hs)))
  · have := Nat.le_of_ble_eq_true hl
    simp [hn]; omega
  · obtain ⟨_, h2⟩ := look_argEnv vs 0 t v hv
    rw [Nat.sub_zero] at h2
    have hlt : t < vs.length := (List.getElem?_eq_some_iff.1 h2).1
    rw [Array.getElem?_append_left (by simpa using hlt)]
    simpa using h2
/-- The way out, with nothing deferred. -/
theorem N.bare {m : Nat} {ro : Option Nat} {fn : Func} {R : Ending → World → Prop} (h : N ⟨m, [], ro⟩ w0 H0 (bodyPost P fn R) .ret env H L) : N ⟨m, [], ro⟩ w0 H0 (bodyPostM (FW none) 0 P fn R) .ret env H L :=
  ⟨fun a w hf hs => by
    obtain ⟨_, v, hr, hR⟩ := h.out a w hf hs
    show LeavesInM _ _ _ _ _ _ a.defers _ _
    rw [hf.defers]
    exact ⟨v, hr, hR⟩⟩
/-- .. with the mark of a range over a function. -/
theorem N.marked {m b i : Nat} {ro : Option Nat} {fn : Func} {R : Ending → World → Prop} (hi : L[i]? = some (.any b (.deferred (some []))))
    (h : N ⟨m, [], ro⟩ w0 H0 (bodyPost P fn R) .ret env H (L.set i (.any b (.deferred none)))) : N ⟨m, [{ target := .collected b, args := #[] }], ro⟩ w0 H0 (bodyPostM (FW none) 0 P fn R) .ret env H L :=
  ⟨fun a w hf hs => by
    have hd := (hs.ok _ (List.mem_of_getElem? hi)).2
    obtain ⟨_, v, hr, hR⟩ := h.out { a with defers := [] } _ ⟨rfl, hf.size, hf.vals⟩ (hs.putObj (.deferred none) hi)
    show LeavesInM _ _ _ _ _ _ a.defers _ _
    rw [hf.defers]
    exact ⟨by simp, .inl ⟨b, _, rfl, run_takeDeferred hd, ⟨v, hr, hR⟩⟩⟩⟩
end
end Go.Proofs.YtfbhcemlnojejaaDoor
namespace Go.Proofs.YtfbhcemlnojejaaDoor
set_option linter.unusedVariables false
set_option linter.unusedSimpArgs false
open Go Go.RowKit
open Enc (enc)

section
variable {P : Program} {n : FK} {w0 : World} {H0 H : Hp} {Q : Exit → Act → World → Prop} {env : List (Nat × Value)} {L : List Loc} {ops rest : List Oper}
theorem St.row_get {w : World} (hs : St w0 H0 H L w) {b m c size : Nat} {e : TypeId} {xs : List Value} (hm : Loc.row (.slice (some ⟨b, 0, none⟩) m c) e size m xs ∈ L) : ∃ cur : Array Value, w.heap[b]? = some (.cells cur e (0, 0)) ∧ w0.heap.size ≤ b ∧ xs.length = m * size ∧ m ≤ c ∧ c ≤ maxLen ∧ cur.size = c * size ∧ cur.toList.take (m * size) = xs := by
  obtain ⟨h1, h2 | ⟨g, cap, cur, he, h3, h4, h5, h6, h7, h8⟩⟩ := (show w.ownsRow w0.heap.size e size (.slice (some ⟨b, 0, none⟩) m c) m xs from hs.ok _ hm)
  · exact absurd h2.1 (by simp)
  · simp only [Value.slice.injEq, Option.some.injEq, Addr.mk.injEq, true_and, and_true] at he
    obtain ⟨rfl, rfl⟩ := he
    exact ⟨cur, h4, h3, h1, h5, h6, h7, h8⟩
theorem St.row_cell {w : World} (hs : St w0 H0 H L w) {b m c size : Nat} {e : TypeId} {xs : List Value} (hm : Loc.row (.slice (some ⟨b, 0, none⟩) m c) e size m xs ∈ L) {o : Nat} {v : Value} (hv : xs[o]? = some v) : w.cell? ⟨b, o, none⟩ = some v := by
  obtain ⟨cur, h1, _, h3, _, _, _, h7⟩ := hs.row_get hm
  have hlt := (List.getElem?_eq_some_iff.1 hv).1
  rw [← h7, List.getElem?_take, if_pos (by omega)] at hv
  unfold World.cell?
  simp [h1]
  simpa using hv
theorem V.load_own [Tys P] {t : TypeId} {x : Operand} {b o m c size : Nat} {e : TypeId} {xs : List Value} {k : TyK} {v : Value} (hk : tyk P t = some k) (ha : k.desc.agg = false) (hx : ev env x = some (.pointer (some ⟨b, o, none⟩))) (hm : Loc.row (.slice (some ⟨b, 0, none⟩) m c) e size m xs ∈ L) (hv : xs[o]? = some v) :
    V P n (St w0 H0 H L) env (.load t x) v :=
  ⟨fun op a w ho hf hs => by
    unfold execOp; rw [ho]; simp only [hf.ev hx, Sem.run_bind, run_load_cell hk ha (hs.row_cell hm hv)]; rfl⟩
theorem V.load_own_row [Tys P] {t : TypeId} {x : Operand} {b o m c size : Nat} {e : TypeId} {xs vs : List Value} {k : TyK} (hk : tyk P t = some k) (ha : k.desc.agg = true) (hx : ev env x = some (.pointer (some ⟨b, o, none⟩))) (hm : Loc.row (.slice (some ⟨b, 0, none⟩) m c) e size m xs ∈ L) (hv : (xs.drop o).take k.size = vs) (hl : vs.length = k.size) :
    V P n (St w0 H0 H L) env (.load t x) (.agg vs.toArray) :=
  ⟨fun op a w ho hf hs => by
    unfold execOp; rw [ho]
    have : (Instr.loadAt t (.pointer (some ⟨b, o, none⟩))).run P w = .ok (.agg vs.toArray) w := run_load_row hk ha hl fun j v hj => by
      refine hs.row_cell hm ?_
      rw [← hv, List.getElem?_take] at hj
      by_cases hjk : j < k.size
      · rw [if_pos hjk, List.getElem?_drop] at hj; exact hj
      · rw [if_neg hjk] at hj; cases hj
    simp only [hf.ev hx, Sem.run_bind, this]; rfl⟩
theorem V.len_row [Tys P] {t e : TypeId} {tys : Array TypeId} {x : Operand} {v : Value} {size m : Nat} {xs : List Value} {k : TyK} (ht : tys[0]? = some t) (hk : tyk P t = some k) (hd : k.desc = .slice e) (hx : ev env x = some v) (hm : Loc.row v e size m xs ∈ L) : V P n (St w0 H0 H L) env (.call { callee := .builtin .len, args := #[x], argTypes := tys }) (intV m) :=
  ⟨fun o a w ho hf hs => by
    have h2 := (show w.ownsRow w0.heap.size e size v m xs from hs.ok _ hm).2
    rcases h2 with ⟨rfl, rfl⟩ | ⟨g, cap, cur, rfl, _⟩
    · exact (V.len (S := fun _ => True) (n := n) ht hk hd hx).out o a w ho hf trivial
    · exact (V.len (S := fun _ => True) (n := n) ht hk hd hx).out o a w ho hf trivial⟩
theorem putCells_length : ∀ (vs cs : List Value) (o : Nat), (putCells cs o vs).length = cs.length
  | [], _, _ => rfl
  | v :: vs, cs, o => by rw [putCells, putCells_length vs]; simp
theorem putCells_take : ∀ (vs cs : List Value) (o k : Nat), o + vs.length ≤ k → (putCells cs o vs).take k = putCells (cs.take k) o vs
  | [], _, _, _, _ => rfl
  | v :: vs, cs, o, k, h => by
    simp only [List.length_cons] at h
    rw [putCells, putCells, putCells_take vs _ _ _ (by omega), List.take_set]
theorem St.storeRow {w : World} (hs : St w0 H0 H L w) {i b m c size o : Nat} {e : TypeId} {xs vs : List Value} (hi : L[i]? = some (.row (.slice (some ⟨b, 0, none⟩) m c) e size m xs)) (ho : o + vs.length ≤ m * size) : St w0 H0 H (L.set i (.row (.slice (some ⟨b, 0, none⟩) m c) e size m (putCells xs o vs))) (w.setCells b o vs) := by
  obtain ⟨cur, h1, h2, h3, h4, h5, h6, h7⟩ := hs.row_get (List.mem_of_getElem? hi)
  have key : ∀ (vs : List Value) (o : Nat) (w : World), (w.setCells b o vs).heap.size = w.heap.size ∧ (w.setCells b o vs).os = w.os ∧ (w.setCells b o vs).tape = w.tape ∧ (w.setCells b o vs).output = w.output := by
    intro vs
    induction vs with
    | nil => intro o w; exact ⟨rfl, rfl, rfl, rfl⟩
    | cons v vs ih =>
      intro o w
      rw [World.setCells]
      obtain ⟨h1, h2, h3, h4⟩ := ih (o + 1) (w.setCell ⟨b, o, none⟩ v)
      exact ⟨h1.trans (by simp [World.setCell]), h2, h3, h4⟩
  obtain ⟨k1, k2, k3, k4⟩ := key vs o w
  have hcs : w.heap[b]? = some (.cells cur.toList.toArray e (0, 0)) := by simpa using h1
  have hc : c * size = cur.toList.length := by simp [h6]
  have hmc : m * size ≤ c * size := Nat.mul_le_mul_right _ h4
  have hnew := setCells_blk b e vs o w cur.toList hcs (by omega)
  refine hs.set hi rfl rfl (fun k hk => heap_setCells b vs o w k hk) k1 k2 k3 k4 ?_
  refine ⟨by rw [putCells_length]; exact h3, .inr ⟨b, c, _, rfl, h2, hnew, h4, h5, by simp [putCells_length, h6], ?_⟩⟩
  rw [List.toList_toArray, putCells_take _ _ _ _ ho, h7]
/-- A store into an element of a row of the call's own (number i of L). -/
theorem X.storeRow [Tys P] {t ty : TypeId} {p x : Operand} {pos : String} {after : Array Edge} {g : Option (Nat × Bool)} {b o m c size : Nat} {e : TypeId} {xs vs : List Value} {v : Value} {k : TyK} (i : Nat) (hk : tyk P t = some k)
    (hp : ev env p = some (.pointer (some ⟨b, o, none⟩))) (hx : ev env x = some v) (hi : L[i]? = some (.row (.slice (some ⟨b, 0, none⟩) m c) e size m xs)) (hv : v.cells = vs.toArray) (hl : vs.length = k.size) (h1 : vs.all (·.oneCell') = true) (ho : o + vs.length ≤ m * size) :
    X P n w0 H0 env H L ⟨none, .store t p x, ty, pos, after, g⟩ false (G := Unit) (fun _ => True) (fun _ => env) (fun _ => H) (fun _ => L.set i (.row (.slice (some ⟨b, 0, none⟩) m c) e size m (putCells xs o vs))) :=
  ⟨fun a w hf hs K Q hK => by
    unfold Oper.wp
    obtain ⟨cur, h1', h2, h3, h4, h5, h6, h7⟩ := hs.row_get (List.mem_of_getElem? hi)
    have hmc : m * size ≤ c * size := Nat.mul_le_mul_right _ h4
    have hrun := run_store_blk hk (w := w) (b := b) (o := o) (T := e) (cs := cur.toList) (vs := vs) (v := v) (by simpa using h1') hv hl h1 (by simp [h6]; omega)
    have : (execOp a.eval ⟨none, .store t p x, ty, pos, after, g⟩).run P w = .ok .skip (w.setCells b o vs) := by
      unfold execOp
      simp only [hf.ev hp, hf.ev hx, Sem.run_bind, hrun]
      rfl
    rw [this]
    exact hK () _ _ trivial (fun h => by cases h) (hf.put_none _) (hs.storeRow hi ho)⟩
/-- A new block is a row. -/
theorem St.blkRow {w : World} (hs : St w0 H0 H L w) {i b m size : Nat} {e : TypeId} {cs : List Value} (hi : L[i]? = some (.blk b e cs)) (hl : cs.length = m * size) (hm : m ≤ maxLen) : St w0 H0 H (L.set i (.row (.slice (some ⟨b, 0, none⟩) m m) e size m cs)) w := by
  have hme := List.mem_of_getElem? hi
  have h := hs.ok _ hme
  have hlt : b < w.heap.size := (Array.getElem?_eq_some_iff.1 h.2).1
  refine hs.set (w' := w) hi rfl rfl (fun _ _ => rfl) rfl rfl rfl rfl ?_
  exact ⟨hl, .inr ⟨b, m, cs.toArray, rfl, h.1, h.2, Nat.le_refl _, hm, by simp [hl], by simp [← hl]⟩⟩
theorem T.blkRow {c : Code} (i m size : Nat) {b : Nat} {e : TypeId} {cs : List Value} (hi : L[i]? = some (.blk b e cs)) (hl : cs.length = m * size) (hm : m ≤ maxLen) (h : T P n w0 H0 c Q env H (L.set i (.row (.slice (some ⟨b, 0, none⟩) m m) e size m cs))) : T P n w0 H0 c Q env H L :=
  ⟨fun a w hf hs => h.out a w hf (hs.blkRow hi hl hm)⟩
/-- An append that leaves something: where the row lies now. -/
theorem X.append1 [Tys P] (i : Nat) {d : Nat} {t e ty : TypeId} {x y : Operand} {pos : String} {after : Array Edge} {g : Option (Nat × Bool)} {k ke : TyK} {v : Value} {m j c b : Nat} {xs news : List Value} {T' : TypeId} (hn : Nat.blt d n.n = true) (hk : tyk P t = some k) (hd : k.desc = .slice e) (hke : tyk P e = some ke) (h0 : Nat.beq ke.size 0 = false) (hz : Nat.beq ke.zero.cells.size ke.size = true)
    (hx : ev env x = some v) (hi : L[i]? = some (.row v e ke.size m xs)) (hy : ev env y = some (.slice (some ⟨b, 0, none⟩) j c)) (hm : Loc.blk b T' news ∈ L) (hl : news.length = j * ke.size) (h1 : news.all (·.oneCell') = true) (hj : Nat.beq j 0 = false) (hb : (m + j) * ke.bytes ≤ 140737488355328) (h63 : m + j ≤ 9223372036854775807) :
    X P n w0 H0 env H L ⟨some d, .call { callee := .builtin .append, args := #[x, y], argTypes := #[t, t] }, ty, pos, after, g⟩ false (G := Nat × Nat) (fun _ => True) (fun p => (d, .slice (some ⟨p.1, 0, none⟩) (m + j) p.2) :: env) (fun _ => H) (fun p => L.set i (.row (.slice (some ⟨p.1, 0, none⟩) (m + j) p.2) e ke.size (m + j) (xs ++ news))) :=
  ⟨fun a w hf hs K Q hK => by
    refine (X.append i (pos := pos) (after := after) (g := g) (ty := ty) hn hk hd hke h0 hz hx hi hy hm hl h1 hb h63).out a w hf hs K Q fun v' a' w' hv' hg hf' hs' => ?_
    have hj' : j ≠ 0 := fun e => by subst e; simp at hj
    have hlen : i < L.length := (List.getElem?_eq_some_iff.1 hi).1
    have hme : Loc.row v' e ke.size (m + j) (xs ++ news) ∈ L.set i (.row v' e ke.size (m + j) (xs ++ news)) := List.mem_of_getElem? (i := i) (by simp [hlen])
    rcases (show w'.ownsRow w0.heap.size e ke.size v' (m + j) (xs ++ news) from hs'.ok _ hme).2 with ⟨_, h0⟩ | ⟨g', cap, cur, rfl, _⟩
    · omega
    · exact hK (g', cap) a' w' trivial (fun h => by cases h) hf' hs'⟩
end
instance : Enc (List UInt8) where
  size := 1
  enc l := [strV l]
  good _ l := l.length ≤ 9223372036854775807
  len _ := rfl
  mono _ h := h
  one _ := rfl
  pos := by decide
end Go.Proofs.YtfbhcemlnojejaaDoor
namespace Go.Proofs.YtfbhcemlnojejaaDoor
set_option linter.unusedVariables false
set_option linter.unusedSimpArgs false
open Go Go.RowKit
open Enc (enc)

section
variable {P : Program} {n : FK} {w0 w w' : World} {H0 H H' : Hp} {Q : Exit → Act → World → Prop} {env : List (Nat × Value)} {L L' : List Loc} {ops rest : List Oper}
theorem Loc.ok.base {base base' : Nat} (hb : base ≤ base') {e : Loc} (h : e.ok base' w) : e.ok base w := by
  cases e with
  | blk b T cs => exact ⟨Nat.le_trans hb h.1, h.2⟩
  | row v e size n xs =>
    refine ⟨h.1, ?_⟩
    rcases h.2 with h2 | ⟨g, cap, cur, hv, hg, r⟩
    · exact .inl h2
    · exact .inr ⟨g, cap, cur, hv, Nat.le_trans hb hg, r⟩
  | any b o => exact ⟨Nat.le_trans hb h.1, h.2⟩
/-- A call that hands over memory of its own. -/
theorem St.callO (h : St w0 H0 H L w) (hf : St w H H' L' w') : St w0 H0 H' (L' ++ L) w' := by
  have hc := h.call hf.fresh
  refine ⟨hc.below, hc.sat, hc.le, hc.new, fun e he => ?_, fun e he => ?_, ?_⟩
  · rcases List.mem_append.1 he with he | he
    · exact (hf.ok e he).base h.below.size
    · exact hc.ok e he
  · rcases List.mem_append.1 he with he | he
    · exact hf.out e he
    · exact hc.out e he
  · refine List.pairwise_append.2 ⟨hf.apart, h.apart, fun e he f hf' b hb hb' => ?_⟩
    have h1 := ((hf.ok e he).lt hb).2
    have h2 := ((h.ok f hf').lt hb').1
    omega
/-- It hands over memory of its own. -/
def RetO {G : Type} (w : World) (H : Hp) (φ : G → Prop) (v : G → Value) (H' : G → Hp) (LL : G → List Loc) : Ending → World → Prop := fun e w' => ∃ g, φ g ∧ e = .returned (v g) ∧ St w H (H' g) (LL g) w'
theorem X.callO {G : Type} {φ : G → Prop} {v : G → Value} {H' : G → Hp} {LL : G → List Loc} {d : Nat} {x : Operand} {args : Array Operand} {tys : Array TypeId} {ty : TypeId} {pos : String} {after : Array Edge} {g : Option (Nat × Bool)} {f : FuncId} {first cap : Array Value} {vs : List Value} (hn : Nat.blt d n.n = true)
    (hx : ev env x = some (.func (.func f) first cap)) (hargs : evs env args.toList = some vs)
    (hcall : ∀ (args : Array Value) (w : World), (callFunc f args).run P w = .ok (.enter f args) w)
    (hc : ∀ w, St w0 H0 H L w → Calls P f (first ++ vs.toArray ++ cap) w (RetO w H φ v H' LL)) :
    X P n w0 H0 env H L ⟨some d, .call { callee := .value x, args := args, argTypes := tys }, ty, pos, after, g⟩ true (fun g => φ g ∧ H.le (H' g)) (fun g => (d, v g) :: env) H' (fun g => LL g ++ L) :=
  ⟨fun a w hf hs K Q hK => by
    unfold Oper.wp
    rw [run_call rfl (hf.ev hx) (hf.evs hargs) hcall]
    refine Calls.mono (hc w hs) fun e w' ⟨g, hg, he, hb⟩ => ?_
    subst he
    exact hK g _ _ ⟨hg, hb.le⟩ (fun _ => hb.below) (hf.put hn _) (hs.callO hb)⟩
theorem X.callO0 {G : Type} {φ : G → Prop} {v : G → Value} {H' : G → Hp} {LL : G → List Loc} {d : Nat} {f : FuncId} {args : Array Operand} {tys : Array TypeId} {ty : TypeId} {pos : String} {after : Array Edge} {g : Option (Nat × Bool)} {vs : List Value}
    (hcall : ∀ (args : Array Value) (w : World), (callFunc f args).run P w = .ok (.enter f args) w) (hn : Nat.blt d n.n = true)
    (hargs : evs env args.toList = some vs) (hc : ∀ w, St w0 H0 H L w → Calls P f vs.toArray w (RetO w H φ v H' LL)) :
    X P n w0 H0 env H L ⟨some d, .call { callee := .value (.func f), args := args, argTypes := tys }, ty, pos, after, g⟩ true (fun g => φ g ∧ H.le (H' g)) (fun g => (d, v g) :: env) H' (fun g => LL g ++ L) :=
  X.callO hn (by rfl) hargs hcall (fun w hs => by simpa using hc w hs)
/-- A call that writes into its caller's. -/
theorem X.callS {G : Type} {φ : G → Prop} {v : G → Value} {HH : G → Hp} {LL : G → List Loc} {d : Nat} {x : Operand} {args : Array Operand} {tys : Array TypeId} {ty : TypeId} {pos : String} {after : Array Edge} {g : Option (Nat × Bool)} {f : FuncId} {first cap : Array Value} {vs : List Value} (hn : Nat.blt d n.n = true)
    (hx : ev env x = some (.func (.func f) first cap)) (hargs : evs env args.toList = some vs)
    (hcall : ∀ (args : Array Value) (w : World), (callFunc f args).run P w = .ok (.enter f args) w)
    (hc : ∀ w, St w0 H0 H L w → CallsIn (FW none) 0 P f (first ++ vs.toArray ++ cap) w (fun e w' => ∃ g, φ g ∧ e = .returned (v g) ∧ St w0 H0 (HH g) (LL g) w')) :
    X P n w0 H0 env H L ⟨some d, .call { callee := .value x, args := args, argTypes := tys }, ty, pos, after, g⟩ false φ (fun g => (d, v g) :: env) HH LL :=
  ⟨fun a w hf hs K Q hK => by
    unfold Oper.wp
    rw [run_call rfl (hf.ev hx) (hf.evs hargs) hcall]
    refine Calls.mono (callsFW' (hc w hs)) fun e w' ⟨g, hg, he, hb⟩ => ?_
    subst he
    exact hK g _ _ hg (fun h => by cases h) (hf.put hn _) hb⟩
theorem X.callS0 {G : Type} {φ : G → Prop} {v : G → Value} {HH : G → Hp} {LL : G → List Loc} {d : Nat} {f : FuncId} {args : Array Operand} {tys : Array TypeId} {ty : TypeId} {pos : String} {after : Array Edge} {g : Option (Nat × Bool)} {vs : List Value}
    (hcall : ∀ (args : Array Value) (w : World), (callFunc f args).run P w = .ok (.enter f args) w) (hn : Nat.blt d n.n = true)
    (hargs : evs env args.toList = some vs) (hc : ∀ w, St w0 H0 H L w → CallsIn (FW none) 0 P f vs.toArray w (fun e w' => ∃ g, φ g ∧ e = .returned (v g) ∧ St w0 H0 (HH g) (LL g) w')) :
    X P n w0 H0 env H L ⟨some d, .call { callee := .value (.func f), args := args, argTypes := tys }, ty, pos, after, g⟩ false φ (fun g => (d, v g) :: env) HH LL :=
  X.callS hn (by rfl) hargs hcall (fun w hs => by simpa using hc w hs)
end
end Go.Proofs.YtfbhcemlnojejaaDoor
