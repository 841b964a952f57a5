/-
  An engine for walks: what is known of a frame is a list of slots, what is known of the world is a part of the heap that nobody writes (H), and a list of blocks of the call's own (L). One rule an operation; no program in sight.
-/
import Derived.WalkKit
import Derived.Lib.Hide
import Derived.Deep.MidRow
import Derived.Deep.Quiet
import Derived.Maps.AppendAt
import Derived.RangeFuncLeaves
import Derived.RangeFuncRecord
import Derived.OrdersIn
namespace Go.Proofs.YtfbhcemlnojejaaDoor
set_option linter.unusedVariables false
set_option linter.unusedSimpArgs false
open Go Go.RowKit

/-! ### The heap that nobody writes -/
abbrev Hp := Nat → Option Obj
def Hp.le (H H' : Hp) : Prop := ∀ k o, H k = some o → H' k = some o
theorem Hp.le.refl (H : Hp) : H.le H := fun _ _ h => h
theorem Hp.le.trans {A B C : Hp} (h : A.le B) (k : B.le C) : A.le C := fun i o hi => k i o (h i o hi)
def Hp.cell (H : Hp) (b o : Nat) : Option Value :=
  match H b with
  | some (.cells c _ _) => c[o]?
  | _ => none
def Hp.cells (H : Hp) (b o : Nat) (l : List Value) : Prop := ∀ j v, l[j]? = some v → H.cell b (o + j) = some v
theorem Hp.cell_le {H H' : Hp} (h : H.le H') {b o : Nat} {v : Value} (hc : H.cell b o = some v) : H'.cell b o = some v := by
  unfold Hp.cell at *
  cases hb : H b with
  | none => rw [hb] at hc; cases hc
  | some x => rw [hb] at hc; rw [h b x hb]; exact hc
theorem Hp.cells_le {H H' : Hp} (h : H.le H') {b o : Nat} {l : List Value} (hc : H.cells b o l) : H'.cells b o l := fun j v hj => Hp.cell_le h (hc j v hj)
def Sat (H : Hp) (w : World) : Prop := ∀ k o, H k = some o → w.heap[k]? = some o
def heapOf (w : World) : Hp := fun k => w.heap[k]?
theorem sat_heapOf (w : World) : Sat (heapOf w) w := fun _ _ h => h
theorem Sat.cell {H : Hp} {w : World} (h : Sat H w) {b o : Nat} {v : Value} (hc : H.cell b o = some v) : w.cell? ⟨b, o, none⟩ = some v := by
  unfold Hp.cell at hc
  cases hb : H b with
  | none => rw [hb] at hc; cases hc
  | some x =>
    rw [hb] at hc
    unfold World.cell?
    rw [show (⟨b, o, none⟩ : Addr).block = b from rfl, h b x hb]
    cases x <;> simp_all
theorem Sat.lt {H : Hp} {w : World} (h : Sat H w) {k : Nat} (hk : H k ≠ none) : k < w.heap.size := by
  cases hb : H k with
  | none => exact absurd hb hk
  | some x =>
    have := h k x hb
    rcases Nat.lt_or_ge k w.heap.size with hlt | hge
    · exact hlt
    · rw [Array.getElem?_eq_none hge] at this; cases this
theorem Sat.below {H : Hp} {w w' : World} (h : Sat H w) (hb : Below w.heap.size w w') : Sat H w' := fun k o hk => by
  rw [hb.block k (h.lt (by rw [hk]; simp))]; exact h k o hk

/-! ### The call's own blocks -/
inductive Loc where
  | blk (b : Nat) (T : TypeId) (cs : List Value)
  | row (v : Value) (e : TypeId) (size n : Nat) (xs : List Value)
  | any (b : Nat) (o : Obj)
def Loc.ok (base : Nat) (w : World) : Loc → Prop
  | .blk b T cs => base ≤ b ∧ w.heap[b]? = some (.cells cs.toArray T (0, 0))
  | .row v e size n xs => w.ownsRow base e size v n xs
  | .any b o => base ≤ b ∧ w.heap[b]? = some o
def Loc.at : Loc → Option Nat
  | .blk b _ _ => some b
  | .row v _ _ _ _ => v.ownBlock
  | .any b _ => some b
def Loc.far (e f : Loc) : Prop := ∀ b, e.at = some b → f.at ≠ some b
structure St (w0 : World) (H0 H : Hp) (L : List Loc) (w : World) : Prop where
  below : Below w0.heap.size w0 w
  sat : Sat H w
  le : H0.le H
  new : ∀ k, H0 k = none → H k ≠ none → w0.heap.size ≤ k
  ok : ∀ e ∈ L, e.ok w0.heap.size w
  out : ∀ e ∈ L, ∀ b, e.at = some b → H b = none
  apart : L.Pairwise Loc.far
/-- What a call that hands back new memory leaves. -/
structure Fresh (w0 : World) (H0 H : Hp) (w : World) : Prop where
  below : Below w0.heap.size w0 w
  sat : Sat H w
  le : H0.le H
  new : ∀ k, H0 k = none → H k ≠ none → w0.heap.size ≤ k

theorem ownBlock_lt {w : World} {base : Nat} {e : TypeId} {size : Nat} {v : Value} {n : Nat} {xs : List Value} (h : w.ownsRow base e size v n xs) {b : Nat} (hb : v.ownBlock = some b) : b < w.heap.size ∧ base ≤ b := by
  rcases h.2 with ⟨rfl, _⟩ | ⟨g, cap, cur, rfl, hg, hh, _⟩
  · simp [Value.ownBlock] at hb
  · simp [Value.ownBlock] at hb
    subst hb
    refine ⟨?_, hg⟩
    rcases Nat.lt_or_ge g w.heap.size with hlt | hge
    · exact hlt
    · rw [Array.getElem?_eq_none hge] at hh; cases hh
theorem Loc.ok.lt {base : Nat} {w : World} {e : Loc} (h : e.ok base w) {b : Nat} (hb : e.at = some b) : b < w.heap.size ∧ base ≤ b := by
  have key : ∀ b o, w.heap[b]? = some o → b < w.heap.size := fun b o h => by
    rcases Nat.lt_or_ge b w.heap.size with hlt | hge
    · exact hlt
    · rw [Array.getElem?_eq_none hge] at h; cases h
  cases e with
  | blk b' T cs => simp only [Loc.at, Option.some.injEq] at hb; subst hb; exact ⟨key _ _ h.2, h.1⟩
  | row v e size n xs => exact ownBlock_lt h hb
  | any b' o => simp only [Loc.at, Option.some.injEq] at hb; subst hb; exact ⟨key _ _ h.2, h.1⟩
/-- Whatever leaves her block alone leaves her alone. -/
theorem Loc.ok.keep {base : Nat} {w w' : World} {e : Loc} (h : e.ok base w) (hk : ∀ b, e.at = some b → w'.heap[b]? = w.heap[b]?) : e.ok base w' := by
  cases e with
  | blk b T cs => exact ⟨h.1, (hk b rfl).trans h.2⟩
  | row v e size n xs =>
    refine ⟨h.1, ?_⟩
    rcases h.2 with h2 | ⟨g, cap, cur, rfl, hg, hh, r⟩
    · exact .inl h2
    · exact .inr ⟨g, cap, cur, rfl, hg, (hk g rfl).trans hh, r⟩
  | any b o => exact ⟨h.1, (hk b rfl).trans h.2⟩

section
variable {w0 w w' : World} {H0 H H' : Hp} {L : List Loc}
theorem St.start (w : World) (H : Hp) (hs : Sat H w) : St w H H [] w :=
  ⟨Below.refl _ _, hs, .refl _, fun k h h' => absurd h h', by simp, by simp, .nil⟩
theorem St.fresh (h : St w0 H0 H L w) : Fresh w0 H0 H w := ⟨h.below, h.sat, h.le, h.new⟩
theorem Fresh.start (w : World) (H : Hp) (hs : Sat H w) : Fresh w H H w := (St.start w H hs).fresh
/-- Nothing that was there has turned. -/
theorem St.grow (h : St w0 H0 H L w) (hb : Below w.heap.size w w') : St w0 H0 H L w' :=
  ⟨h.below.trans (hb.mono h.below.size), h.sat.below hb, h.le, h.new,
    fun e he => (h.ok e he).keep fun b hb' => hb.block b ((h.ok e he).lt hb').1, h.out, h.apart⟩
/-- A call that hands back new memory. -/
theorem St.call (h : St w0 H0 H L w) (hf : Fresh w H H' w') : St w0 H0 H' L w' := by
  refine ⟨h.below.trans (hf.below.mono h.below.size), hf.sat, h.le.trans hf.le, fun k h0 h1 => ?_,
    fun e he => (h.ok e he).keep fun b hb' => hf.below.block b ((h.ok e he).lt hb').1, fun e he b hb' => ?_, h.apart⟩
  · by_cases hk : H k = none
    · exact Nat.le_trans h.below.size (hf.new k hk h1)
    · exact h.new k h0 hk
  · have h1 := h.out e he b hb'
    by_cases h2 : H' b = none
    · exact h2
    · have := hf.new b h1 h2
      have := ((h.ok e he).lt hb').1
      omega
theorem St.drew (h : St w0 H0 H L w) : St w0 H0 H L w.drew := h.grow ((Below.refl _ _).drew)
/-- A new block. -/
theorem St.alloc (h : St w0 H0 H L w) {e : Loc} {o : Obj} (ha : e.at = some w.heap.size) (hok : e.ok w0.heap.size (w.alloc o)) : St w0 H0 H (e :: L) (w.alloc o) := by
  have hb : Below w.heap.size w (w.alloc o) := (Below.refl _ _).alloc (Nat.le_refl _) _
  have g := h.grow hb
  refine ⟨g.below, g.sat, g.le, g.new, ?_, ?_, ?_⟩
  · intro f hf
    rcases List.mem_cons.1 hf with rfl | hf
    · exact hok
    · exact g.ok f hf
  · intro f hf b hb'
    rcases List.mem_cons.1 hf with rfl | hf
    · rw [ha] at hb'
      cases hb'
      by_cases hk : H w.heap.size = none
      · exact hk
      · have := h.sat.lt hk; omega
    · exact g.out f hf b hb'
  · refine List.Pairwise.cons (fun f hf b hb' hb2 => ?_) h.apart
    rw [ha] at hb'
    cases hb'
    have := ((h.ok f hf).lt hb2).1
    omega
theorem St.blk (h : St w0 H0 H L w) (T : TypeId) (cs : List Value) : St w0 H0 H (.blk w.heap.size T cs :: L) (w.alloc (.cells cs.toArray T)) :=
  h.alloc rfl ⟨h.below.size, heap_alloc_new w _⟩
theorem St.sub (h : St w0 H0 H L w) {L' : List Loc} (hs : List.Sublist L' L) : St w0 H0 H L' w :=
  ⟨h.below, h.sat, h.le, h.new, fun e he => h.ok e (hs.subset he), fun e he => h.out e (hs.subset he), h.apart.sublist hs⟩
end

/-! ### The frame -/
theorem beq_no {s t : Nat} (e : ¬ s = t) : Nat.beq s t = false := by
  cases h : Nat.beq s t with
  | false => rfl
  | true => exact absurd (Nat.eq_of_beq_eq_true h) e
def look : Nat → List (Nat × Value) → Option Value
  | _, [] => none
  | t, (s, v) :: r => bif Nat.beq s t then some v else look t r
/-- Of a frame: how many slots; what waits for its end; the round that it is of. -/
structure FK where
  n : Nat
  D : List Deferred
  r : Option Nat
structure Fr (n : FK) (env : List (Nat × Value)) (a : Act) : Prop where
  defers : a.defers = n.D
  size : a.tmps.size = n.n
  vals : ∀ t v, look t env = some v → a.tmps[t]? = some v
def ev (env : List (Nat × Value)) : Operand → Option Value
  | .tmp t => look t env
  | .const v => some v
  | .global g => some (.pointer (some ⟨g, 0, none⟩))
  | .func f => some (.func (.func f) #[] #[])
theorem Fr.ev {n : FK} {env : List (Nat × Value)} {a : Act} (h : Fr n env a) {x : Operand} {v : Value} (hx : ev env x = some v) : a.eval x = v := by
  cases x with
  | tmp t => have := h.vals t v hx; simp [Act.eval, Array.getD_eq_getD_getElem?, this]
  | const u => cases hx; rfl
  | global g => cases hx; rfl
  | func f => cases hx; rfl
theorem Fr.put {n : FK} {env : List (Nat × Value)} {a : Act} (h : Fr n env a) {d : Nat} (hd : Nat.blt d n.n = true) (v : Value) : Fr n ((d, v) :: env) (a.put (some d) v) := by
  have hd' : d < n.n := by simpa [Nat.blt_eq] using hd
  refine ⟨h.defers, by simp [Act.put, h.size], fun t u ht => ?_⟩
  simp only [look] at ht
  simp only [Act.put, Array.getElem?_setIfInBounds, h.size]
  by_cases e : d = t
  · subst e
    simp [hd'] at ht ⊢
    exact ht
  · rw [if_neg e]
    have := beq_no e
    rw [this] at ht
    exact h.vals t u ht
theorem Fr.put_none {n : FK} {env : List (Nat × Value)} {a : Act} (h : Fr n env a) (v : Value) : Fr n env (a.put none v) := h
/-- 'env'' says no more than 'env'. -/
def Sub : List (Nat × Value) → List (Nat × Value) → Prop
  | [], _ => True
  | (t, v) :: r, env => look t env = some v ∧ Sub r env
theorem Sub.int {t : Nat} {k : IntKind} {i j : Int} {r env : List (Nat × Value)} (h : look t env = some (.int k i)) (e : i = j) (hr : Sub r env) : Sub ((t, .int k j) :: r) env := ⟨by rw [h, e], hr⟩
theorem Sub.val {t : Nat} {u v : Value} {r env : List (Nat × Value)} (h : look t env = some u) (e : u = v) (hr : Sub r env) : Sub ((t, v) :: r) env := ⟨by rw [h, e], hr⟩
theorem Fr.sub {n : FK} {env env' : List (Nat × Value)} {a : Act} (h : Fr n env a) (hs : Sub env' env) : Fr n env' a := by
  refine ⟨h.defers, h.size, ?_⟩
  induction env' with
  | nil => intro t v ht; cases ht
  | cons p r ih =>
    obtain ⟨s, u⟩ := p
    obtain ⟨h1, h2⟩ := hs
    intro t v ht
    simp only [look] at ht
    by_cases e : s = t
    · subst e
      simp at ht
      subst ht
      exact h.vals _ _ h1
    · have := beq_no e
      rw [this] at ht
      exact ih h2 t v ht

/-! ### The walk -/
def FW (r : Option Nat) : Fence := { Fence.wide with round := r }
theorem callsFW {r : Option Nat} {P : Program} {f : FuncId} {args : Array Value} {w : World} {R : Ending → World → Prop} (h : Calls P f args w R) : CallsIn (FW r) 0 P f args w R :=
  (callsIn_wide (n := 0)).2 h
theorem callsFW' {r : Option Nat} {P : Program} {f : FuncId} {args : Array Value} {w : World} {R : Ending → World → Prop} (h : CallsIn (FW r) 0 P f args w R) : Calls P f args w R :=
  (callsIn_wide (n := 0)).1 h
/-- No 'defer' statement. -/
def nd (o : Oper) : Bool :=
  match o.op with
  | .defer _ => false
  | _ => true
theorem nd_ne {o : Oper} (h : nd o = true) : ∀ c, o.op ≠ .defer c := fun c hc => by
  unfold nd at h; rw [hc] at h; cases h
theorem nd_value {P : Program} {o : Oper} {ρ : Operand → Value} {w w' : World} {v : Value} (h : (execOp ρ o).run P w = .ok (.value v) w') : nd o = true := by
  cases hn : nd o with
  | true => rfl
  | false =>
    unfold nd at hn
    cases ho : o.op <;> rw [ho] at hn <;> first | cases hn | skip
    rename_i c
    unfold execOp at h
    rw [ho] at h
    simp only [Sem.run_bind] at h
    cases hr : (resolve ρ c o.type).run P w with
    | ok d w1 => rw [hr] at h; simp at h
    | halt x w1 => rw [hr] at h; cases h
theorem bridge {r : Option Nat} {P : Program} {o : Oper} {a : Act} {w : World} {K : Act → World → Prop} {Q : Exit → Act → World → Prop} (hn : nd o = true) (h : o.wp P a w K Q) : o.wpIn (FW r) 0 P a w K Q := by
  refine ⟨fun _ _ => trivial, ?_⟩
  rw [Oper.semAt_eq _ _ _ (nd_ne hn)]
  unfold Oper.wp at h
  generalize (execOp a.eval o).run P w = res at *
  cases res with
  | ok x w' =>
    cases x <;> simp only [Oper.upon] at h <;> simp only [Oper.uponIn]
    case value v => exact h
    case skip => exact h
    case defer d => exact h
    case enter f args => exact ⟨fun h' => by simp [FW, Fence.wide] at h', callsFW h⟩
    case row row args =>
      refine ⟨fun h' => by simp [FW, Fence.wide] at h', fun c cs _ => ?_⟩
      obtain ⟨v, w1, h1, h2⟩ := h c cs
      exact ⟨v, w1, h1, stepsIn_wide.2 h2⟩
  | halt x w' => cases x <;> simp only [Oper.upon] at h <;> simp only [Oper.uponIn] <;> exact h
structure T (P : Program) (n : FK) (w0 : World) (H0 : Hp) (c : Code) (Q : Exit → Act → World → Prop) (env : List (Nat × Value)) (H : Hp) (L : List Loc) : Prop where
  out : ∀ a w, Fr n env a → St w0 H0 H L w → c.wpIn (FW n.r) 0 P Q a w
structure TL (P : Program) (n : FK) (w0 : World) (H0 : Hp) (ops : List Oper) (Q : Exit → Act → World → Prop) (rest : List Oper) (env : List (Nat × Value)) (H : Hp) (L : List Loc) : Prop where
  out : ∀ a w, Fr n env a → St w0 H0 H L w → wpListIn (FW n.r) 0 P ops.toArray Q rest a w
/-- What stands behind a piece of code, at one of its exits. -/
structure N (n : FK) (w0 : World) (H0 : Hp) (Q : Exit → Act → World → Prop) (e : Exit) (env : List (Nat × Value)) (H : Hp) (L : List Loc) : Prop where
  out : ∀ a w, Fr n env a → St w0 H0 H L w → Q e a w
def want (ops : List Oper) (env : List (Nat × Value)) (o : Oper) : Option Bool :=
  match o.guard with
  | none => some true
  | some (j, b) =>
    match ops[j]? with
    | some ⟨some d, _, _, _, _, _⟩ =>
      match look d env with
      | some (.bool c) => some (c == b)
      | some (.tuple _) => some false
      | _ => none
    | _ => none

section
variable {P : Program} {n : FK} {w0 : World} {H0 H : Hp} {Q : Exit → Act → World → Prop} {env : List (Nat × Value)} {L : List Loc} {ops rest : List Oper}
theorem want_spec {a : Act} (hf : Fr n env a) {o : Oper} {b : Bool} (h : want ops env o = some b) : Region.wanted o (yielded ops.toArray a.tmps) = b := by
  unfold want at h
  unfold Region.wanted
  cases hg : o.guard with
  | none => rw [hg] at h; simp at h; simpa using h
  | some p =>
    obtain ⟨j, c⟩ := p
    rw [hg] at h
    try simp only at h
    try simp only
    unfold yielded
    cases hj : ops[j]? with
    | none => rw [hj] at h; cases h
    | some o' =>
      rw [hj] at h
      obtain ⟨d, op, ty, pos, after, gd⟩ := o'
      cases d with
      | none => cases h
      | some d =>
        try simp only at h
        have hj' : ops.toArray[j]? = some ⟨some d, op, ty, pos, after, gd⟩ := by simpa using hj
        rw [hj']
        try simp only [Option.bind_some]
        cases hl : look d env with
        | none => rw [hl] at h; cases h
        | some v =>
          rw [hl] at h
          rw [hf.vals d v hl]
          try simp only [Option.bind_some]
          cases v
          case bool e =>
            cases h
            show (some e == some c) = (e == c)
            cases e <;> cases c <;> rfl
          case tuple vs =>
            cases h
            show ((none : Option Bool) == some c) = false
            cases c <;> rfl
          all_goals cases h
theorem TL.nil (h : N n w0 H0 Q .normal env H L) : TL P n w0 H0 ops Q [] env H L := ⟨fun a w hf hs => h.out a w hf hs⟩
/-- The operation is passed over. -/
theorem TL.skip {o : Oper} {d : Nat} (hd : o.dst = some d) (hn : Nat.blt d n.n = true) (hw : want ops env o = some false) (h : TL P n w0 H0 ops Q rest ((d, undef) :: env) H L) : TL P n w0 H0 ops Q (o :: rest) env H L := by
  refine ⟨fun a w hf hs => ?_⟩
  unfold wpListIn
  rw [want_spec hf hw, if_neg (by simp), hd]
  exact ⟨fun _ _ => trivial, h.out _ _ (hf.put hn _) hs⟩
theorem TL.skip_none {o : Oper} (hd : o.dst = none) (hw : want ops env o = some false) (h : TL P n w0 H0 ops Q rest env H L) : TL P n w0 H0 ops Q (o :: rest) env H L := by
  refine ⟨fun a w hf hs => ?_⟩
  unfold wpListIn
  rw [want_spec hf hw, if_neg (by simp), hd]
  exact ⟨fun _ _ => trivial, h.out _ _ (hf.put_none _) hs⟩
/-- One operation, however it goes. -/
theorem TL.opIn {o : Oper} (hw : want ops env o = some true) (h : ∀ a w, Fr n env a → St w0 H0 H L w → o.wpIn (FW n.r) 0 P a w (wpListIn (FW n.r) 0 P ops.toArray Q rest) Q) : TL P n w0 H0 ops Q (o :: rest) env H L := by
  refine ⟨fun a w hf hs => ?_⟩
  unfold wpListIn
  rw [want_spec hf hw, if_pos rfl]
  exact h a w hf hs
theorem TL.op {o : Oper} (hn : nd o = true) (hw : want ops env o = some true) (h : ∀ a w, Fr n env a → St w0 H0 H L w → o.wp P a w (wpListIn (FW n.r) 0 P ops.toArray Q rest) Q) : TL P n w0 H0 ops Q (o :: rest) env H L := by
  exact TL.opIn hw fun a w hf hs => bridge hn (h a w hf hs)
/-- An operation that yields a value and leaves the world. -/
structure V (P : Program) (n : FK) (S : World → Prop) (env : List (Nat × Value)) (op : Op) (v : Value) : Prop where
  out : ∀ (o : Oper) a w, o.op = op → Fr n env a → S w → (execOp a.eval o).run P w = .ok (.value v) w
theorem TL.val {d : Nat} {op : Op} {ty : TypeId} {pos : String} {after : Array Edge} {g : Option (Nat × Bool)} {v : Value} (hn : Nat.blt d n.n = true) (hw : want ops env ⟨some d, op, ty, pos, after, g⟩ = some true) (hv : V P n (St w0 H0 H L) env op v)
    (h : TL P n w0 H0 ops Q rest ((d, v) :: env) H L) : TL P n w0 H0 ops Q (⟨some d, op, ty, pos, after, g⟩ :: rest) env H L :=
  TL.opIn hw fun a w hf hs => bridge (nd_value (hv.out ⟨some d, op, ty, pos, after, g⟩ a w rfl hf hs)) (by
    unfold Oper.wp
    rw [hv.out _ a w rfl hf hs]
    exact h.out _ _ (hf.put hn v) hs)
/-- A test of a guard that is not decided. -/
theorem TL.part (s : Nat) {e : Bool} (hx : look s env = some (.bool e)) (ht : e = true → TL P n w0 H0 ops Q rest ((s, .bool true) :: env) H L) (hf : e = false → TL P n w0 H0 ops Q rest ((s, .bool false) :: env) H L) : TL P n w0 H0 ops Q rest env H L := by
  refine ⟨fun a w hfr hs => ?_⟩
  have key : ∀ b, e = b → Fr n ((s, .bool b) :: env) a := by
    rintro b rfl
    refine ⟨hfr.defers, hfr.size, fun t v hv => ?_⟩
    simp only [look] at hv
    by_cases he : s = t
    · subst he
      simp at hv
      subst hv
      exact hfr.vals _ _ hx
    · have := beq_no he
      rw [this] at hv
      exact hfr.vals t v hv
  cases he : e with
  | true => exact (ht he).out a w (key _ he) hs
  | false => exact (hf he).out a w (key _ he) hs
theorem T.region {id : Nat} (h : TL P n w0 H0 ops Q ops env H L) : T P n w0 H0 (.region id ops.toArray false) Q env H L := ⟨fun a w hf hs => wpIn_region_lit (h.out a w hf hs)⟩
theorem T.seq {x y : Code} (h : T P n w0 H0 x (Exit.then (y.wpIn (FW n.r) 0 P Q) Q) env H L) : T P n w0 H0 (.seq x y) Q env H L := ⟨fun a w hf hs => wpIn_seq (h.out a w hf hs)⟩
theorem T.skip (h : N n w0 H0 Q .normal env H L) : T P n w0 H0 .skip Q env H L := ⟨fun a w hf hs => wpIn_skip (h.out a w hf hs)⟩
theorem T.exit {id : Nat} (h : N n w0 H0 Q (.exit id) env H L) : T P n w0 H0 (.exit id) Q env H L := ⟨fun a w hf hs => wpIn_exit (h.out a w hf hs)⟩
theorem T.block {id : Nat} {c : Code} (h : T P n w0 H0 c (Exit.inBlock id Q) env H L) : T P n w0 H0 (.block id c) Q env H L := ⟨fun a w hf hs => wpIn_block (h.out a w hf hs)⟩
theorem T.cond_true {c : Operand} {x y : Code} (hc : ev env c = some (.bool true)) (h : T P n w0 H0 x Q env H L) : T P n w0 H0 (.cond c x y) Q env H L :=
  ⟨fun a w hf hs => wpIn_cond_true (hf.ev hc) (h.out a w hf hs)⟩
theorem T.cond_false {c : Operand} {x y : Code} (hc : ev env c = some (.bool false)) (h : T P n w0 H0 y Q env H L) : T P n w0 H0 (.cond c x y) Q env H L :=
  ⟨fun a w hf hs => wpIn_cond_false (hf.ev hc) (h.out a w hf hs)⟩
theorem T.cond {c : Operand} {x y : Code} {e : Bool} (hc : ev env c = some (.bool e)) (ht : e = true → T P n w0 H0 x Q env H L) (he : e = false → T P n w0 H0 y Q env H L) : T P n w0 H0 (.cond c x y) Q env H L :=
  ⟨fun a w hf hs => wpIn_cond_split (hf.ev hc) (fun h => (ht h).out a w hf hs) (fun h => (he h).out a w hf hs)⟩
/-- Forget. -/
theorem T.weaken {c : Code} (env' : List (Nat × Value)) (L' : List Loc) (hs : Sub env' env) (hl : List.Sublist L' L) (h : T P n w0 H0 c Q env' H L') : T P n w0 H0 c Q env H L :=
  ⟨fun a w hf hst => h.out a w (hf.sub hs) (hst.sub hl)⟩
/-- Behind a piece of code: what is known there, over a ghost. -/
theorem T.cut {G : Type} {x y : Code} (E : G → List (Nat × Value)) (HH : G → Hp) (LL : G → List Loc) (φ : G → Prop)
    (hx : T P n w0 H0 x (Exit.then (fun a w => ∃ g, φ g ∧ Fr n (E g) a ∧ St w0 H0 (HH g) (LL g) w) Q) env H L) (hy : ∀ g, φ g → T P n w0 H0 y Q (E g) (HH g) (LL g)) : T P n w0 H0 (.seq x y) Q env H L :=
  ⟨fun a w hf hs => wpIn_seq (wpIn_mono (hx.out a w hf hs) fun e a' w' h => by
    cases e with
    | normal => obtain ⟨g, h1, h2, h3⟩ := h; exact (hy g h1).out a' w' h2 h3
    | _ => exact h)⟩
/-- A loop, over a ghost. -/
theorem T.loop {G : Type} {c : Code} (E : G → List (Nat × Value)) (HH : G → Hp) (LL : G → List Loc) (φ : G → Prop) (μ : G → Nat) (g0 : G)
    (h0 : φ g0) (hE : Sub (E g0) env) (hH : HH g0 = H) (hL : List.Sublist (LL g0) L)
    (round : ∀ g, φ g → T P n w0 H0 c (Exit.then (fun a w => ∃ g', φ g' ∧ μ g' < μ g ∧ Fr n (E g') a ∧ St w0 H0 (HH g') (LL g') w) Q) (E g) (HH g) (LL g)) : T P n w0 H0 (.loop c) Q env H L := by
  refine ⟨fun a w hf hs => ?_⟩
  subst hH
  intro b k cs hro hb hr
  have key : ∀ (m : Nat) (g : G) a w, μ g = m → φ g → Fr n (E g) a → St w0 H0 (HH g) (LL g) w →
      ∃ e a' w', Q e a' w' ∧ ArrivesIn (Machine.fenced P (FW n.r)) P (lone (b.atR a (.code c :: .inLoop c :: k)) cs w) b k cs e a' w' := by
    intro m
    induction m using Nat.strongRecOn with
    | _ m ih =>
      intro g a w hm hg hf hs
      obtain ⟨e, a₁, w₁, hq, harr⟩ := (round g hg).out a w hf hs b (.inLoop c :: k) cs hro hb hr
      cases e with
      | normal =>
        obtain ⟨g', h1, hlt, h2, h3⟩ := hq
        obtain ⟨e₂, a₂, w₂, hq₂, harr₂⟩ := ih (μ g') (hm ▸ hlt) g' a₁ w₁ rfl h1 h2 h3
        exact ⟨e₂, a₂, w₂, hq₂, .of_steps (StepsIn.trans harr (.one (fenced_calm hb hr rfl) stepR_inLoop)) harr₂⟩
      | exit id => exact ⟨_, a₁, w₁, hq, .pass (x := .inLoop c) rfl (fun _ _ => .inl (by simp)) harr⟩
      | goto l => exact ⟨_, a₁, w₁, hq, .pass (x := .inLoop c) rfl (fun _ _ => .inl (by simp)) harr⟩
      | ret => exact ⟨_, a₁, w₁, hq, .pass (x := .inLoop c) rfl (fun _ _ => .inl (by simp)) harr⟩
      | panic ch => exact ⟨_, a₁, w₁, hq, .pass (x := .inLoop c) rfl (fun _ _ => .inl (by simp)) harr⟩
      | outgrown => exact ⟨_, a₁, w₁, hq, .pass (x := .inLoop c) rfl (fun _ _ => .inl (by simp)) harr⟩
  obtain ⟨e, a', w', hq, harr⟩ := key _ g0 a w rfl h0 (hf.sub hE) (hs.sub hL)
  exact ⟨e, a', w', hq, .of_steps (.one (fenced_calm hb hr rfl) stepR_loop) harr⟩
end
end Go.Proofs.YtfbhcemlnojejaaDoor
