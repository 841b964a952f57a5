import Derived.WalkKit
import Derived.Lib.Hide
import Derived.Deep.MidRow
import Derived.Deep.Quiet
import Derived.Maps.AppendAt
import Derived.RangeFuncLeaves
import Derived.RangeFuncRecord
import Derived.OrdersIn
import Derived.RangeFuncSeq
namespace Go.Proofs.YthabgdbhgcgemaaGreatDoor
set_option linter.unusedVariables false
set_option linter.unusedSimpArgs false
open Go Go.RowKit
abbrev Hp := Nat → Option Obj
def Hp.le (H H' : Hp) : Prop := ∀ k o, H k = some o → H' k = some o
theorem Hp.le.refl (H : Hp) : H.le H := fun _ _ h => h
theorem Hp.le.trans {A B C : Hp} (h : A.le B) (k : B.le C) : A.le C := fun i o hi => k i o (h i o hi)
def Hp.cell (H : Hp) (b o : Nat) : Option Value :=
  match H b with
  | some (.cells c _ _) => c[o]?
  | _ => none
def Hp.cells (H : Hp) (b o : Nat) (l : List Value) : Prop := ∀ j v, l[j]? = some v → H.cell b (o + j) = some v
theorem Hp.cell_le {H H' : Hp} (h : H.le H') {b o : Nat} {v : Value} (hc : H.cell b o = some v) : H'.cell b o = some v := by
  unfold Hp.cell at *
  cases hb : H b with
  | none => rw [hb] at hc; cases hc
  | some x => rw [hb] at hc; rw [h b x hb]; exact hc
theorem Hp.cells_le {H H' : Hp} (h : H.le H') {b o : Nat} {l : List Value} (hc : H.cells b o l) : H'.cells b o l := fun j v hj => Hp.cell_le h (hc j v hj)
def Sat (H : Hp) (w : World) : Prop := ∀ k o, H k = some o → w.heap[k]? = some o
def heapOf (w : World) : Hp := fun k => w.heap[k]?
theorem sat_heapOf (w : World) : Sat (heapOf w) w := fun _ _ h => h
theorem Sat.cell {H : Hp} {w : World} (h : Sat H w) {b o : Nat} {v : Value} (hc : H.cell b o = some v) : w.cell? ⟨b, o, none⟩ = some v := by
  unfold Hp.cell at hc
  cases hb : H b with
  | none => rw [hb] at hc; cases hc
  | some x =>
    rw [hb] at hc
    unfold World.cell?
    rw [show (⟨b, o, none⟩ : Addr).block = b from rfl, h b x hb]
    cases x <;> simp_all
theorem Sat.lt {H : Hp} {w : World} (h : Sat H w) {k : Nat} (hk : H k ≠ none) : k < w.heap.size := by
  cases hb : H k with
  | none => exact absurd hb hk
  | some x =>
    have := h k x hb
    rcases Nat.lt_or_ge k w.heap.size with hlt | hge
    · exact hlt
    · rw [Array.getElem?_eq_none hge] at this; cases this
def endW {α : Type} : Result α → World
  | .ok _ w => w
  | .halt _ w => w
theorem viewStore_drawn {P : Program} {w w' : World} {a k : Addr} {u : TypeId} {v : Value} {b : Bool} {l : List Addr} (h : w.viewStore P a u k v b = .ok (w', l)) : w'.drawn = w.drawn := by
  unfold World.viewStore at h
  simp only [bind, Except.bind, pure, Except.pure] at h
  repeat' split at h
  all_goals first
    | (cases h; rfl)
    | cases h
theorem farStore_drawn {P : Program} {w w' : World} {a : Addr} {v : Value} {b : Bool} {l : List Addr} (h : w.farStore P a v b = .ok (w', l)) : w'.drawn = w.drawn := by
  unfold World.farStore at h
  split at h
  · split at h
    · rename_i r hr
      cases h
      exact viewStore_drawn hr
    · cases h
  · cases h
theorem ask_drawn {α : Type} : ∀ (x : Ask α) (w : World), w.drawn ≤ (w.ask x).2.drawn
  | .done a, w => Nat.le_refl _
  | .ask what range k, w => by
    unfold World.ask
    simp only
    split
    · exact ask_drawn (k 0) w
    · refine Nat.le_trans ?_ (ask_drawn _ _)
      exact Nat.le_succ _
theorem sys_drawn (w : World) (c : Sys) : w.drawn ≤ (w.sys c).2.drawn := by
  have h := ask_drawn (Kernel.perform c w.os) w
  unfold World.sys
  split
  · exact Nat.le_refl _
  · rename_i heq
    rw [heq] at h
    exact h
theorem freeze_drawn (w : World) (a : Addr) (n : Nat) : (w.freeze a n).drawn = w.drawn := by
  unfold World.freeze
  split <;> rfl
theorem run_drawn_all {α : Type} {P : Program} (s : Sem α) : ∀ w : World, w.drawn ≤ (endW (s.run P w)).drawn := by
  induction s with
  | pure a => intro w; exact Nat.le_refl _
  | load m a k ih =>
    intro w
    simp only [Sem.run]
    split
    · exact ih _ _
    · split
      · exact ih _ _
      · exact Nat.le_refl _
  | store m a v k ih =>
    intro w
    unfold Sem.run
    split
    all_goals first
      | exact Nat.le_refl _
      | (rename_i he; cases he; done)
      | skip
    all_goals
      rename_i heq
      cases heq
      first
      | exact Nat.le_refl _
      | (split
         · split
           · exact Nat.le_refl _
           · refine Nat.le_trans ?_ (ih _)
             exact Nat.le_refl _
         · split
           · rename_i h
             have := farStore_drawn h
             exact Nat.le_trans (Nat.le_of_eq this.symm) (ih _)
           · exact Nat.le_refl _)
  | new o k ih =>
    intro w
    simp only [Sem.run]
    refine Nat.le_trans ?_ (ih _ _)
    exact Nat.le_refl _
  | shape r k ih => intro w; simp only [Sem.run]; exact ih _ _
  | freeze a n k ih => intro w; simp only [Sem.run]; exact Nat.le_trans (Nat.le_of_eq (freeze_drawn w a n).symm) (ih _)
  | frozen a k ih => intro w; simp only [Sem.run]; exact ih _ _
  | getObj r k ih =>
    intro w
    simp only [Sem.run]
    split
    · exact Nat.le_refl _
    · exact ih _ _
    · exact Nat.le_refl _
  | setObj r o k ih =>
    intro w
    simp only [Sem.run]
    split
    · exact Nat.le_refl _
    · refine Nat.le_trans ?_ (ih _)
      exact Nat.le_refl _
    · exact Nat.le_refl _
  | choose q k ih =>
    intro w
    simp only [Sem.run]
    split
    · exact ih _ _
    · refine Nat.le_trans ?_ (ih _ _)
      exact Nat.le_succ _
  | sys c k ih => intro w; simp only [Sem.run]; exact Nat.le_trans (sys_drawn w c) (ih _ _)
  | program k ih => intro w; simp only [Sem.run]; exact ih _ _
  | mark m k ih => intro w; simp only [Sem.run]; exact ih _
  | halt h => intro w; exact Nat.le_refl _
theorem run_drawn {α : Type} {P : Program} {s : Sem α} {w w' : World} {v : α} (h : s.run P w = .ok v w') : w.drawn ≤ w'.drawn := by
  have := run_drawn_all (P := P) s w
  rw [h] at this
  exact this
structure Below (B : Nat) (w w' : World) : Prop where
  os : w'.os = w.os
  tape : w'.tape = w.tape
  output : w'.output = w.output
  size : w.heap.size ≤ w'.heap.size
  block : ∀ k, k < B → w'.heap[k]? = w.heap[k]?
  drawn : w.drawn ≤ w'.drawn
theorem Below.old {B : Nat} {w w' : World} (h : Below B w w') : Go.RowKit.Below B w w' := ⟨h.os, h.tape, h.output, h.size, h.block⟩
theorem Below.of {B : Nat} {w w' : World} (h : Go.RowKit.Below B w w') (k : w.drawn ≤ w'.drawn) : Below B w w' := ⟨h.os, h.tape, h.output, h.size, h.block, k⟩
theorem Below.refl (B : Nat) (w : World) : Below B w w := .of (.refl B w) (Nat.le_refl _)
theorem Below.trans {B : Nat} {a b c : World} (h : Below B a b) (k : Below B b c) : Below B a c := .of (h.old.trans k.old) (Nat.le_trans h.drawn k.drawn)
theorem Below.mono {B B' : Nat} {w w' : World} (h : Below B w w') (hB : B' ≤ B) : Below B' w w' := .of (h.old.mono hB) h.drawn
theorem Below.drew {B : Nat} {a w : World} (h : Below B a w) : Below B a w.drew := .of h.old.drew (Nat.le_succ_of_le h.drawn)
theorem Below.alloc {B : Nat} {a w : World} (h : Below B a w) (hB : B ≤ w.heap.size) (o : Obj) : Below B a (w.alloc o) := .of (h.old.alloc hB o) h.drawn
theorem Below.frame {W w' : World} (h : Below W.heap.size W w') (may : MemPlace → Prop) : W.keptBut w' may := h.old.frame may
theorem Below.same {W w' : World} (h : Below W.heap.size W w') {p : MemPlace} (hp : p.block < W.heap.size) : W.sameAt w' p := h.old.same hp
theorem Sat.below {H : Hp} {w w' : World} (h : Sat H w) (hb : Below w.heap.size w w') : Sat H w' := fun k o hk => by
  rw [hb.block k (h.lt (by rw [hk]; simp))]; exact h k o hk
inductive Loc where
  | blk (b : Nat) (T : TypeId) (cs : List Value)
  | row (v : Value) (e : TypeId) (size n : Nat) (xs : List Value)
  | any (b : Nat) (o : Obj)
def Loc.ok (base : Nat) (w : World) : Loc → Prop
  | .blk b T cs => base ≤ b ∧ w.heap[b]? = some (.cells cs.toArray T (0, 0))
  | .row v e size n xs => w.ownsRow base e size v n xs
  | .any b o => base ≤ b ∧ w.heap[b]? = some o
def Loc.at : Loc → Option Nat
  | .blk b _ _ => some b
  | .row v _ _ _ _ => v.ownBlock
  | .any b _ => some b
def Loc.far (e f : Loc) : Prop := ∀ b, e.at = some b → f.at ≠ some b
structure St (w0 : World) (H0 H : Hp) (L : List Loc) (w : World) : Prop where
  below : Below w0.heap.size w0 w
  sat : Sat H w
  le : H0.le H
  new : ∀ k, H0 k = none → H k ≠ none → w0.heap.size ≤ k
  ok : ∀ e ∈ L, e.ok w0.heap.size w
  out : ∀ e ∈ L, ∀ b, e.at = some b → H b = none
  apart : L.Pairwise Loc.far
structure Fresh (w0 : World) (H0 H : Hp) (w : World) : Prop where
  below : Below w0.heap.size w0 w
  sat : Sat H w
  le : H0.le H
  new : ∀ k, H0 k = none → H k ≠ none → w0.heap.size ≤ k
theorem ownBlock_lt {w : World} {base : Nat} {e : TypeId} {size : Nat} {v : Value} {n : Nat} {xs : List Value} (h : w.ownsRow base e size v n xs) {b : Nat} (hb : v.ownBlock = some b) : b < w.heap.size ∧ base ≤ b := by
  rcases h.2 with ⟨rfl, _⟩ | ⟨g, cap, cur, rfl, hg, hh, _⟩
  · simp [Value.ownBlock] at hb
  · simp [Value.ownBlock] at hb
    subst hb
    refine ⟨?_, hg⟩
    rcases Nat.lt_or_ge g w.heap.size with hlt | hge
    · exact hlt
    · rw [Array.getElem?_eq_none hge] at hh; cases hh
theorem Loc.ok.lt {base : Nat} {w : World} {e : Loc} (h : e.ok base w) {b : Nat} (hb : e.at = some b) : b < w.heap.size ∧ base ≤ b := by
  have key : ∀ b o, w.heap[b]? = some o → b < w.heap.size := fun b o h => by
    rcases Nat.lt_or_ge b w.heap.size with hlt | hge
    · exact hlt
    · rw [Array.getElem?_eq_none hge] at h; cases h
  cases e with
  | blk b' T cs => simp only [Loc.at, Option.some.injEq] at hb; subst hb; exact ⟨key _ _ h.2, h.1⟩
  | row v e size n xs => exact ownBlock_lt h hb
  | any b' o => simp only [Loc.at, Option.some.injEq] at hb; subst hb; exact ⟨key _ _ h.2, h.1⟩
theorem Loc.ok.keep {base : Nat} {w w' : World} {e : Loc} (h : e.ok base w) (hk : ∀ b, e.at = some b → w'.heap[b]? = w.heap[b]?) : e.ok base w' := by
  cases e with
  | blk b T cs => exact ⟨h.1, (hk b rfl).trans h.2⟩
  | row v e size n xs =>
    refine ⟨h.1, ?_⟩
    rcases h.2 with h2 | ⟨g, cap, cur, rfl, hg, hh, r⟩
    · exact .inl h2
    · exact .inr ⟨g, cap, cur, rfl, hg, (hk g rfl).trans hh, r⟩
  | any b o => exact ⟨h.1, (hk b rfl).trans h.2⟩
section
variable {w0 w w' : World} {H0 H H' : Hp} {L : List Loc}
theorem St.start (w : World) (H : Hp) (hs : Sat H w) : St w H H [] w :=
  ⟨Below.refl _ _, hs, .refl _, fun k h h' => absurd h h', by simp, by simp, .nil⟩
theorem St.fresh (h : St w0 H0 H L w) : Fresh w0 H0 H w := ⟨h.below, h.sat, h.le, h.new⟩
theorem St.grow (h : St w0 H0 H L w) (hb : Below w.heap.size w w') : St w0 H0 H L w' :=
  ⟨h.below.trans (hb.mono h.below.size), h.sat.below hb, h.le, h.new,
    fun e he => (h.ok e he).keep fun b hb' => hb.block b ((h.ok e he).lt hb').1, h.out, h.apart⟩
theorem St.call (h : St w0 H0 H L w) (hf : Fresh w H H' w') : St w0 H0 H' L w' := by
  refine ⟨h.below.trans (hf.below.mono h.below.size), hf.sat, h.le.trans hf.le, fun k h0 h1 => ?_,
    fun e he => (h.ok e he).keep fun b hb' => hf.below.block b ((h.ok e he).lt hb').1, fun e he b hb' => ?_, h.apart⟩
  · by_cases hk : H k = none
    · exact Nat.le_trans h.below.size (hf.new k hk h1)
    · exact h.new k h0 hk
  · have h1 := h.out e he b hb'
    by_cases h2 : H' b = none
    · exact h2
    · have := hf.new b h1 h2
      have := ((h.ok e he).lt hb').1
      omega
theorem St.drew (h : St w0 H0 H L w) : St w0 H0 H L w.drew := h.grow ((Below.refl _ _).drew)
theorem St.alloc (h : St w0 H0 H L w) {e : Loc} {o : Obj} (ha : e.at = some w.heap.size) (hok : e.ok w0.heap.size (w.alloc o)) : St w0 H0 H (e :: L) (w.alloc o) := by
  have hb : Below w.heap.size w (w.alloc o) := (Below.refl _ _).alloc (Nat.le_refl _) _
  have g := h.grow hb
  refine ⟨g.below, g.sat, g.le, g.new, ?_, ?_, ?_⟩
  · intro f hf
    rcases List.mem_cons.1 hf with rfl | hf
    · exact hok
    · exact g.ok f hf
  · intro f hf b hb'
    rcases List.mem_cons.1 hf with rfl | hf
    · rw [ha] at hb'
      cases hb'
      by_cases hk : H w.heap.size = none
      · exact hk
      · have := h.sat.lt hk; omega
    · exact g.out f hf b hb'
  · refine List.Pairwise.cons (fun f hf b hb' hb2 => ?_) h.apart
    rw [ha] at hb'
    cases hb'
    have := ((h.ok f hf).lt hb2).1
    omega
theorem St.blk (h : St w0 H0 H L w) (T : TypeId) (cs : List Value) : St w0 H0 H (.blk w.heap.size T cs :: L) (w.alloc (.cells cs.toArray T)) :=
  h.alloc rfl ⟨h.below.size, heap_alloc_new w _⟩
theorem St.sub (h : St w0 H0 H L w) {L' : List Loc} (hs : List.Sublist L' L) : St w0 H0 H L' w :=
  ⟨h.below, h.sat, h.le, h.new, fun e he => h.ok e (hs.subset he), fun e he => h.out e (hs.subset he), h.apart.sublist hs⟩
end
theorem beq_no {s t : Nat} (e : ¬ s = t) : Nat.beq s t = false := by
  cases h : Nat.beq s t with
  | false => rfl
  | true => exact absurd (Nat.eq_of_beq_eq_true h) e
def look : Nat → List (Nat × Value) → Option Value
  | _, [] => none
  | t, (s, v) :: r => bif Nat.beq s t then some v else look t r
structure FK where
  n : Nat
  D : List Deferred
  r : Option Nat
structure Fr (n : FK) (env : List (Nat × Value)) (a : Act) : Prop where
  defers : a.defers = n.D
  size : a.tmps.size = n.n
  vals : ∀ t v, look t env = some v → a.tmps[t]? = some v
def ev (env : List (Nat × Value)) : Operand → Option Value
  | .tmp t => look t env
  | .const v => some v
  | .global g => some (.pointer (some ⟨g, 0, none⟩))
  | .func f => some (.func (.func f) #[] #[])
theorem Fr.ev {n : FK} {env : List (Nat × Value)} {a : Act} (h : Fr n env a) {x : Operand} {v : Value} (hx : ev env x = some v) : a.eval x = v := by
  cases x with
  | tmp t => have := h.vals t v hx; simp [Act.eval, Array.getD_eq_getD_getElem?, this]
  | const u => cases hx; rfl
  | global g => cases hx; rfl
  | func f => cases hx; rfl
theorem Fr.put {n : FK} {env : List (Nat × Value)} {a : Act} (h : Fr n env a) {d : Nat} (hd : Nat.blt d n.n = true) (v : Value) : Fr n ((d, v) :: env) (a.put (some d) v) := by
  have hd' : d < n.n := by simpa [Nat.blt_eq] using hd
  refine ⟨h.defers, by simp [Act.put, h.size], fun t u ht => ?_⟩
  simp only [look] at ht
  simp only [Act.put, Array.getElem?_setIfInBounds, h.size]
  by_cases e : d = t
  · subst e
    simp [hd'] at ht ⊢
    exact ht
  · rw [if_neg e]
    have := beq_no e
    rw [this] at ht
    exact h.vals t u ht
theorem Fr.put_none {n : FK} {env : List (Nat × Value)} {a : Act} (h : Fr n env a) (v : Value) : Fr n env (a.put none v) := h
def Sub : List (Nat × Value) → List (Nat × Value) → Prop
  | [], _ => True
  | (t, v) :: r, env => look t env = some v ∧ Sub r env
theorem Sub.int {t : Nat} {k : IntKind} {i j : Int} {r env : List (Nat × Value)} (h : look t env = some (.int k i)) (e : i = j) (hr : Sub r env) : Sub ((t, .int k j) :: r) env := ⟨by rw [h, e], hr⟩
theorem Fr.sub {n : FK} {env env' : List (Nat × Value)} {a : Act} (h : Fr n env a) (hs : Sub env' env) : Fr n env' a := by
  refine ⟨h.defers, h.size, ?_⟩
  induction env' with
  | nil => intro t v ht; cases ht
  | cons p r ih =>
    obtain ⟨s, u⟩ := p
    obtain ⟨h1, h2⟩ := hs
    intro t v ht
    simp only [look] at ht
    by_cases e : s = t
    · subst e
      simp at ht
      subst ht
      exact h.vals _ _ h1
    · have := beq_no e
      rw [this] at ht
      exact ih h2 t v ht
def FW (r : Option Nat) : Fence := { Fence.wide with round := r }
theorem callsFW {r : Option Nat} {P : Program} {f : FuncId} {args : Array Value} {w : World} {R : Ending → World → Prop} (h : Calls P f args w R) : CallsIn (FW r) 0 P f args w R :=
  (callsIn_wide (n := 0)).2 h
theorem callsFW' {r : Option Nat} {P : Program} {f : FuncId} {args : Array Value} {w : World} {R : Ending → World → Prop} (h : CallsIn (FW r) 0 P f args w R) : Calls P f args w R :=
  (callsIn_wide (n := 0)).1 h
def nd (o : Oper) : Bool :=
  match o.op with
  | .defer _ => false
  | _ => true
theorem nd_ne {o : Oper} (h : nd o = true) : ∀ c, o.op ≠ .defer c := fun c hc => by
  unfold nd at h; rw [hc] at h; cases h
theorem nd_value {P : Program} {o : Oper} {ρ : Operand → Value} {w w' : World} {v : Value} (h : (execOp ρ o).run P w = .ok (.value v) w') : nd o = true := by
  cases hn : nd o with
  | true => rfl
  | false =>
    unfold nd at hn
    cases ho : o.op <;> rw [ho] at hn <;> first | cases hn | skip
    rename_i c
    unfold execOp at h
    rw [ho] at h
    simp only [Sem.run_bind] at h
    cases hr : (resolve ρ c o.type).run P w with
    | ok d w1 => rw [hr] at h; simp at h
    | halt x w1 => rw [hr] at h; cases h
theorem bridge {r : Option Nat} {P : Program} {o : Oper} {a : Act} {w : World} {K : Act → World → Prop} {Q : Exit → Act → World → Prop} (hn : nd o = true) (h : o.wp P a w K Q) : o.wpIn (FW r) 0 P a w K Q := by
  refine ⟨fun _ _ => trivial, ?_⟩
  rw [Oper.semAt_eq _ _ _ (nd_ne hn)]
  unfold Oper.wp at h
  generalize (execOp a.eval o).run P w = res at *
  cases res with
  | ok x w' =>
    cases x <;> simp only [Oper.upon] at h <;> simp only [Oper.uponIn]
    case value v => exact h
    case skip => exact h
    case defer d => exact h
    case enter f args => exact ⟨fun h' => by simp [FW, Fence.wide] at h', callsFW h⟩
    case row row args =>
      refine ⟨fun h' => by simp [FW, Fence.wide] at h', fun c cs _ => ?_⟩
      obtain ⟨v, w1, h1, h2⟩ := h c cs
      exact ⟨v, w1, h1, stepsIn_wide.2 h2⟩
  | halt x w' => cases x <;> simp only [Oper.upon] at h <;> simp only [Oper.uponIn] <;> exact h
structure T (P : Program) (n : FK) (w0 : World) (H0 : Hp) (c : Code) (Q : Exit → Act → World → Prop) (env : List (Nat × Value)) (H : Hp) (L : List Loc) : Prop where
  out : ∀ a w, Fr n env a → St w0 H0 H L w → c.wpIn (FW n.r) 0 P Q a w
structure TL (P : Program) (n : FK) (w0 : World) (H0 : Hp) (ops : List Oper) (Q : Exit → Act → World → Prop) (rest : List Oper) (env : List (Nat × Value)) (H : Hp) (L : List Loc) : Prop where
  out : ∀ a w, Fr n env a → St w0 H0 H L w → wpListIn (FW n.r) 0 P ops.toArray Q rest a w
structure N (n : FK) (w0 : World) (H0 : Hp) (Q : Exit → Act → World → Prop) (e : Exit) (env : List (Nat × Value)) (H : Hp) (L : List Loc) : Prop where
  out : ∀ a w, Fr n env a → St w0 H0 H L w → Q e a w
def want (ops : List Oper) (env : List (Nat × Value)) (o : Oper) : Option Bool :=
  match o.guard with
  | none => some true
  | some (j, b) =>
    match ops[j]? with
    | some ⟨some d, _, _, _, _, _⟩ =>
      match look d env with
      | some (.bool c) => some (c == b)
      | some (.tuple _) => some false
      | _ => none
    | _ => none
section
variable {P : Program} {n : FK} {w0 : World} {H0 H : Hp} {Q : Exit → Act → World → Prop} {env : List (Nat × Value)} {L : List Loc} {ops rest : List Oper}
theorem want_spec {a : Act} (hf : Fr n env a) {o : Oper} {b : Bool} (h : want ops env o = some b) : Region.wanted o (yielded ops.toArray a.tmps) = b := by
  unfold want at h
  unfold Region.wanted
  cases hg : o.guard with
  | none => rw [hg] at h; simp at h; simpa using h
  | some p =>
    obtain ⟨j, c⟩ := p
    rw [hg] at h
    try simp only at h
    try simp only
    unfold yielded
    cases hj : ops[j]? with
    | none => rw [hj] at h; cases h
    | some o' =>
      rw [hj] at h
      obtain ⟨d, op, ty, pos, after, gd⟩ := o'
      cases d with
      | none => cases h
      | some d =>
        try simp only at h
        have hj' : ops.toArray[j]? = some ⟨some d, op, ty, pos, after, gd⟩ := by simpa using hj
        rw [hj']
        try simp only [Option.bind_some]
        cases hl : look d env with
        | none => rw [hl] at h; cases h
        | some v =>
          rw [hl] at h
          rw [hf.vals d v hl]
          try simp only [Option.bind_some]
          cases v
          case bool e =>
            cases h
            show (some e == some c) = (e == c)
            cases e <;> cases c <;> rfl
          case tuple vs =>
            cases h
            show ((none : Option Bool) == some c) = false
            cases c <;> rfl
          all_goals cases h
theorem TL.nil (h : N n w0 H0 Q .normal env H L) : TL P n w0 H0 ops Q [] env H L := ⟨fun a w hf hs => h.out a w hf hs⟩
theorem TL.skip {o : Oper} {d : Nat} (hd : o.dst = some d) (hn : Nat.blt d n.n = true) (hw : want ops env o = some false) (h : TL P n w0 H0 ops Q rest ((d, undef) :: env) H L) : TL P n w0 H0 ops Q (o :: rest) env H L := by
  refine ⟨fun a w hf hs => ?_⟩
  unfold wpListIn
  rw [want_spec hf hw, if_neg (by simp), hd]
  exact ⟨fun _ _ => trivial, h.out _ _ (hf.put hn _) hs⟩
theorem TL.skip_none {o : Oper} (hd : o.dst = none) (hw : want ops env o = some false) (h : TL P n w0 H0 ops Q rest env H L) : TL P n w0 H0 ops Q (o :: rest) env H L := by
  refine ⟨fun a w hf hs => ?_⟩
  unfold wpListIn
  rw [want_spec hf hw, if_neg (by simp), hd]
  exact ⟨fun _ _ => trivial, h.out _ _ (hf.put_none _) hs⟩
theorem TL.opIn {o : Oper} (hw : want ops env o = some true) (h : ∀ a w, Fr n env a → St w0 H0 H L w → o.wpIn (FW n.r) 0 P a w (wpListIn (FW n.r) 0 P ops.toArray Q rest) Q) : TL P n w0 H0 ops Q (o :: rest) env H L := by
  refine ⟨fun a w hf hs => ?_⟩
  unfold wpListIn
  rw [want_spec hf hw, if_pos rfl]
  exact h a w hf hs
theorem TL.op {o : Oper} (hn : nd o = true) (hw : want ops env o = some true) (h : ∀ a w, Fr n env a → St w0 H0 H L w → o.wp P a w (wpListIn (FW n.r) 0 P ops.toArray Q rest) Q) : TL P n w0 H0 ops Q (o :: rest) env H L := by
  exact TL.opIn hw fun a w hf hs => bridge hn (h a w hf hs)
structure V (P : Program) (n : FK) (S : World → Prop) (env : List (Nat × Value)) (op : Op) (v : Value) : Prop where
  out : ∀ (o : Oper) a w, o.op = op → Fr n env a → S w → (execOp a.eval o).run P w = .ok (.value v) w
theorem TL.val {d : Nat} {op : Op} {ty : TypeId} {pos : String} {after : Array Edge} {g : Option (Nat × Bool)} {v : Value} (hn : Nat.blt d n.n = true) (hw : want ops env ⟨some d, op, ty, pos, after, g⟩ = some true) (hv : V P n (St w0 H0 H L) env op v)
    (h : TL P n w0 H0 ops Q rest ((d, v) :: env) H L) : TL P n w0 H0 ops Q (⟨some d, op, ty, pos, after, g⟩ :: rest) env H L :=
  TL.opIn hw fun a w hf hs => bridge (nd_value (hv.out ⟨some d, op, ty, pos, after, g⟩ a w rfl hf hs)) (by
    unfold Oper.wp
    rw [hv.out _ a w rfl hf hs]
    exact h.out _ _ (hf.put hn v) hs)
theorem TL.part (s : Nat) {e : Bool} (hx : look s env = some (.bool e)) (ht : e = true → TL P n w0 H0 ops Q rest ((s, .bool true) :: env) H L) (hf : e = false → TL P n w0 H0 ops Q rest ((s, .bool false) :: env) H L) : TL P n w0 H0 ops Q rest env H L := by
  refine ⟨fun a w hfr hs => ?_⟩
  have key : ∀ b, e = b → Fr n ((s, .bool b) :: env) a := by
    rintro b rfl
    refine ⟨hfr.defers, hfr.size, fun t v hv => ?_⟩
    simp only [look] at hv
    by_cases he : s = t
    · subst he
      simp at hv
      subst hv
      exact hfr.vals _ _ hx
    · have := beq_no he
      rw [this] at hv
      exact hfr.vals t v hv
  cases he : e with
  | true => exact (ht he).out a w (key _ he) hs
  | false => exact (hf he).out a w (key _ he) hs
theorem T.region {id : Nat} (h : TL P n w0 H0 ops Q ops env H L) : T P n w0 H0 (.region id ops.toArray false) Q env H L := ⟨fun a w hf hs => wpIn_region_lit (h.out a w hf hs)⟩
theorem T.seq {x y : Code} (h : T P n w0 H0 x (Exit.then (y.wpIn (FW n.r) 0 P Q) Q) env H L) : T P n w0 H0 (.seq x y) Q env H L := ⟨fun a w hf hs => wpIn_seq (h.out a w hf hs)⟩
theorem T.skip (h : N n w0 H0 Q .normal env H L) : T P n w0 H0 .skip Q env H L := ⟨fun a w hf hs => wpIn_skip (h.out a w hf hs)⟩
theorem T.exit {id : Nat} (h : N n w0 H0 Q (.exit id) env H L) : T P n w0 H0 (.exit id) Q env H L := ⟨fun a w hf hs => wpIn_exit (h.out a w hf hs)⟩
theorem T.block {id : Nat} {c : Code} (h : T P n w0 H0 c (Exit.inBlock id Q) env H L) : T P n w0 H0 (.block id c) Q env H L := ⟨fun a w hf hs => wpIn_block (h.out a w hf hs)⟩
theorem T.cond_true {c : Operand} {x y : Code} (hc : ev env c = some (.bool true)) (h : T P n w0 H0 x Q env H L) : T P n w0 H0 (.cond c x y) Q env H L :=
  ⟨fun a w hf hs => wpIn_cond_true (hf.ev hc) (h.out a w hf hs)⟩
theorem T.cond_false {c : Operand} {x y : Code} (hc : ev env c = some (.bool false)) (h : T P n w0 H0 y Q env H L) : T P n w0 H0 (.cond c x y) Q env H L :=
  ⟨fun a w hf hs => wpIn_cond_false (hf.ev hc) (h.out a w hf hs)⟩
theorem T.cond {c : Operand} {x y : Code} {e : Bool} (hc : ev env c = some (.bool e)) (ht : e = true → T P n w0 H0 x Q env H L) (he : e = false → T P n w0 H0 y Q env H L) : T P n w0 H0 (.cond c x y) Q env H L :=
  ⟨fun a w hf hs => wpIn_cond_split (hf.ev hc) (fun h => (ht h).out a w hf hs) (fun h => (he h).out a w hf hs)⟩
theorem T.cut {G : Type} {x y : Code} (E : G → List (Nat × Value)) (HH : G → Hp) (LL : G → List Loc) (φ : G → Prop)
    (hx : T P n w0 H0 x (Exit.then (fun a w => ∃ g, φ g ∧ Fr n (E g) a ∧ St w0 H0 (HH g) (LL g) w) Q) env H L) (hy : ∀ g, φ g → T P n w0 H0 y Q (E g) (HH g) (LL g)) : T P n w0 H0 (.seq x y) Q env H L :=
  ⟨fun a w hf hs => wpIn_seq (wpIn_mono (hx.out a w hf hs) fun e a' w' h => by
    cases e with
    | normal => obtain ⟨g, h1, h2, h3⟩ := h; exact (hy g h1).out a' w' h2 h3
    | _ => exact h)⟩
theorem T.loop {G : Type} {c : Code} (E : G → List (Nat × Value)) (HH : G → Hp) (LL : G → List Loc) (φ : G → Prop) (μ : G → Nat) (g0 : G)
    (h0 : φ g0) (hE : Sub (E g0) env) (hH : HH g0 = H) (hL : List.Sublist (LL g0) L)
    (round : ∀ g, φ g → T P n w0 H0 c (Exit.then (fun a w => ∃ g', φ g' ∧ μ g' < μ g ∧ Fr n (E g') a ∧ St w0 H0 (HH g') (LL g') w) Q) (E g) (HH g) (LL g)) : T P n w0 H0 (.loop c) Q env H L := by
  refine ⟨fun a w hf hs => ?_⟩
  subst hH
  intro b k cs hro hb hr
  have key : ∀ (m : Nat) (g : G) a w, μ g = m → φ g → Fr n (E g) a → St w0 H0 (HH g) (LL g) w →
      ∃ e a' w', Q e a' w' ∧ ArrivesIn (Machine.fenced P (FW n.r)) P (lone (b.atR a (.code c :: .inLoop c :: k)) cs w) b k cs e a' w' := by
    intro m
    induction m using Nat.strongRecOn with
    | _ m ih =>
      intro g a w hm hg hf hs
      obtain ⟨e, a₁, w₁, hq, harr⟩ := (round g hg).out a w hf hs b (.inLoop c :: k) cs hro hb hr
      cases e with
      | normal =>
        obtain ⟨g', h1, hlt, h2, h3⟩ := hq
        obtain ⟨e₂, a₂, w₂, hq₂, harr₂⟩ := ih (μ g') (hm ▸ hlt) g' a₁ w₁ rfl h1 h2 h3
        exact ⟨e₂, a₂, w₂, hq₂, .of_steps (StepsIn.trans harr (.one (fenced_calm hb hr rfl) stepR_inLoop)) harr₂⟩
      | exit id => exact ⟨_, a₁, w₁, hq, .pass (x := .inLoop c) rfl (fun _ _ => .inl (by simp)) harr⟩
      | goto l => exact ⟨_, a₁, w₁, hq, .pass (x := .inLoop c) rfl (fun _ _ => .inl (by simp)) harr⟩
      | ret => exact ⟨_, a₁, w₁, hq, .pass (x := .inLoop c) rfl (fun _ _ => .inl (by simp)) harr⟩
      | panic ch => exact ⟨_, a₁, w₁, hq, .pass (x := .inLoop c) rfl (fun _ _ => .inl (by simp)) harr⟩
      | outgrown => exact ⟨_, a₁, w₁, hq, .pass (x := .inLoop c) rfl (fun _ _ => .inl (by simp)) harr⟩
  obtain ⟨e, a', w', hq, harr⟩ := key _ g0 a w rfl h0 (hf.sub hE) (hs.sub hL)
  exact ⟨e, a', w', hq, .of_steps (.one (fenced_calm hb hr rfl) stepR_loop) harr⟩
end
end Go.Proofs.YthabgdbhgcgemaaGreatDoor
namespace Go.Proofs.YthabgdbhgcgemaaGreatDoor
set_option linter.unusedVariables false
set_option linter.unusedSimpArgs false
open Go Go.RowKit
inductive TyD where
  | plain
  | str
  | int (k : IntKind)
  | slice (e : TypeId)
  | struct (fs : List (Nat × Nat × TypeId))
  | map (k e : TypeId)
  | array (n : Nat) (e : TypeId)
structure TyK where
  size : Nat
  bytes : Nat
  zero : Value
  desc : TyD
def TyD.agg : TyD → Bool
  | .struct _ | .array _ _ => true
  | _ => false
def TyD.fits (P : Program) : TyD → TypeDesc → Prop
  | .plain, d => d.isRow = false
  | .str, d => d = .string
  | .int k, d => d = .int k
  | .slice e, d => d = .slice e
  | .struct fs, d => ∃ fields, d = .struct fields ∧ fields.toList.map (fun f => (f.offset, P.cellsOf f.type, f.type)) = fs
  | .map k e, d => d = .map k e
  | .array n e, d => d = .array n e
structure TyOk (P : Program) (t : TypeId) (k : TyK) : Prop where
  info : (P.info? t).map (fun i => (i.size, i.bytes, i.zero)) = some (k.size, k.bytes, some k.zero)
  und : ∃ d, P.underlying t = some d ∧ k.desc.fits P d
def lookT : TypeId → List (TypeId × TyK) → Option TyK
  | _, [] => none
  | t, (s, v) :: r => bif Nat.beq s t then some v else lookT t r
def AllT (P : Program) : List (TypeId × TyK) → Prop
  | [] => True
  | p :: r => TyOk P p.1 p.2 ∧ AllT P r
class Tys (P : Program) where
  tab : List (TypeId × TyK)
  ok : AllT P tab
theorem allT_look {P : Program} {l : List (TypeId × TyK)} (h : AllT P l) {t : TypeId} {k : TyK} (hk : lookT t l = some k) : TyOk P t k := by
  induction l with
  | nil => cases hk
  | cons p r ih =>
    obtain ⟨s, v⟩ := p
    simp only [lookT] at hk
    by_cases e : s = t
    · subst e
      simp at hk
      subst hk
      exact h.1
    · rw [beq_no e] at hk
      exact ih h.2 hk
def tyk (P : Program) [Tys P] (t : TypeId) : Option TyK := lookT t (Tys.tab P)
theorem tyk_ok {P : Program} [Tys P] {t : TypeId} {k : TyK} (h : tyk P t = some k) : TyOk P t k := allT_look Tys.ok h
theorem TyOk.get {P : Program} {t : TypeId} {k : TyK} (h : TyOk P t k) : ∃ i, P.info? t = some i ∧ i.size = k.size ∧ i.bytes = k.bytes ∧ i.zero = some k.zero := by
  have := h.info
  cases hi : P.info? t with
  | none => rw [hi] at this; cases this
  | some i => rw [hi] at this; simp at this; exact ⟨i, rfl, this.1, this.2.1, this.2.2⟩
theorem TyOk.isAgg {P : Program} {t : TypeId} {k : TyK} (h : TyOk P t k) (w : World) : (isAgg t).run P w = .ok k.desc.agg w := by
  obtain ⟨d, hd, hf⟩ := h.und
  unfold Go.isAgg
  rw [Sem.run_bind, run_underlying hd w]
  cases hk : k.desc <;> rw [hk] at hf <;> simp only [TyD.fits] at hf
  case plain => cases d <;> simp_all [TyD.agg]
  case struct fs => obtain ⟨f, rfl, _⟩ := hf; simp [TyD.agg]
  all_goals (subst hf; simp [TyD.agg])
theorem TyOk.sizeOf {P : Program} {t : TypeId} {k : TyK} (h : TyOk P t k) (w : World) : (sizeOf t).run P w = .ok k.size w := by
  obtain ⟨i, hi, h1, _⟩ := h.get
  simp [Go.sizeOf, typeInfo, hi, h1]
theorem sizeOf_of_cells {P : Program} {t : TypeId} {s : Nat} (h : P.cellsOf t = s) (h0 : s ≠ 0) (w : World) : (sizeOf t).run P w = .ok s w := by
  unfold Program.cellsOf at h
  cases hi : P.info? t with
  | none => rw [hi] at h; simp at h; omega
  | some i => rw [hi] at h; simp at h; simp [Go.sizeOf, typeInfo, hi, h]
abbrev strV (l : List UInt8) : Value := .string ⟨l.toArray⟩
abbrev intV (n : Int) : Value := .int .i64 n
section
variable {P : Program} {n : FK} {w0 : World} {H0 H : Hp} {S : World → Prop} {env : List (Nat × Value)} {L : List Loc}
theorem V.plain {op : Op} {v : Value} (h : ∀ (o : Oper) a, o.op = op → Fr n env a → execOp a.eval o = Pure.pure (Next.value v)) : V P n S env op v :=
  ⟨fun o a w ho hf _ => by rw [h o a ho hf]; rfl⟩
theorem V.move {x : Operand} {v : Value} (hx : ev env x = some v) : V P n S env (.move x) v :=
  V.plain fun o a ho hf => by unfold execOp; rw [ho]; simp only [hf.ev hx]
theorem V.assign {x : Operand} {v : Value} (hx : ev env x = some v) : V P n S env (.assign x) v :=
  V.plain fun o a ho hf => by unfold execOp; rw [ho]; simp only [hf.ev hx]
theorem V.pick_true {c x y : Operand} {v : Value} (hc : ev env c = some (.bool true)) (hx : ev env x = some v) : V P n S env (.pick c x y) v :=
  ⟨fun o a w ho hf _ => by unfold execOp; rw [ho]; simp [hf.ev hc, hf.ev hx, asBool]⟩
theorem V.pick_false {c x y : Operand} {v : Value} (hc : ev env c = some (.bool false)) (hy : ev env y = some v) : V P n S env (.pick c x y) v :=
  ⟨fun o a w ho hf _ => by unfold execOp; rw [ho]; simp [hf.ev hc, hf.ev hy, asBool]⟩
theorem V.not {t : TypeId} {x : Operand} {e : Bool} (hx : ev env x = some (.bool e)) : V P n S env (.unOp .not t x) (.bool (!e)) :=
  ⟨fun o a w ho hf _ => by unfold execOp; rw [ho]; simp [hf.ev hx, Op.unary]⟩
theorem V.extract {x : Operand} {i : Nat} {vs : Array Value} {v : Value} (hx : ev env x = some (.tuple vs)) (hi : vs[i]? = some v) : V P n S env (.extract x i) v :=
  ⟨fun o a w ho hf _ => by unfold execOp; rw [ho]; simp [hf.ev hx, Instr.extract, hi]⟩
theorem V.makeFunc {fn : Fn} {first captured : Array Operand} {vs us : List Value} (hf1 : first.toList.map (ev env) = vs.map some) (hf2 : captured.toList.map (ev env) = us.map some) : V P n S env (.makeFunc fn first captured) (.func fn vs.toArray us.toArray) :=
  ⟨fun o a w ho hf _ => by
    have key : ∀ (xs : Array Operand) (zs : List Value), xs.toList.map (Go.Proofs.YthabgdbhgcgemaaGreatDoor.ev env) = zs.map some → xs.map a.eval = zs.toArray := by
      intro xs zs h
      apply Array.toList_inj.1
      rw [Array.toList_map]
      generalize xs.toList = l at h
      induction l generalizing zs with
      | nil => cases zs <;> simp_all
      | cons x l ih =>
        cases zs with
        | nil => simp at h
        | cons z zs =>
          simp only [List.map_cons, List.cons.injEq] at h
          simp only [List.map_cons, hf.ev h.1]
          have := ih zs h.2
          simp at this ⊢
          exact this
    unfold execOp; rw [ho]; simp [Instr.makeFunc, key _ _ hf1, key _ _ hf2]⟩
theorem wrap_i64 {x : Int} (h : -9223372036854775808 ≤ x ∧ x ≤ 9223372036854775807) : IntKind.i64.wrap x = x := IntWalk.i64_in _ h
theorem V.add {t u : TypeId} {x y : Operand} {i j : Int} (hx : ev env x = some (intV i)) (hy : ev env y = some (intV j)) (h : -9223372036854775808 ≤ i + j ∧ i + j ≤ 9223372036854775807) : V P n S env (.binOp .add t x y u) (intV (i + j)) :=
  ⟨fun o a w ho hf _ => by unfold execOp; rw [ho]; simp [hf.ev hx, hf.ev hy, binOp, eqGuard, Op.intArith, wrap_i64 h]⟩
theorem V.sub {t u : TypeId} {x y : Operand} {i j : Int} (hx : ev env x = some (intV i)) (hy : ev env y = some (intV j)) (h : -9223372036854775808 ≤ i - j ∧ i - j ≤ 9223372036854775807) : V P n S env (.binOp .sub t x y u) (intV (i - j)) :=
  ⟨fun o a w ho hf _ => by unfold execOp; rw [ho]; simp [hf.ev hx, hf.ev hy, binOp, eqGuard, Op.intArith, wrap_i64 h]⟩
theorem V.lss {k : IntKind} {t u : TypeId} {x y : Operand} {i j : Int} (hx : ev env x = some (.int k i)) (hy : ev env y = some (.int k j)) : V P n S env (.binOp .lss t x y u) (.bool (decide (i < j))) :=
  ⟨fun o a w ho hf _ => by unfold execOp; rw [ho]; simp [hf.ev hx, hf.ev hy, binOp, eqGuard, Op.intCmp]⟩
theorem V.leq {k : IntKind} {t u : TypeId} {x y : Operand} {i j : Int} (hx : ev env x = some (.int k i)) (hy : ev env y = some (.int k j)) : V P n S env (.binOp .leq t x y u) (.bool (decide (i ≤ j))) :=
  ⟨fun o a w ho hf _ => by unfold execOp; rw [ho]; simp [hf.ev hx, hf.ev hy, binOp, eqGuard, Op.intCmp]⟩
theorem V.gtr {k : IntKind} {t u : TypeId} {x y : Operand} {i j : Int} (hx : ev env x = some (.int k i)) (hy : ev env y = some (.int k j)) : V P n S env (.binOp .gtr t x y u) (.bool (decide (j < i))) :=
  ⟨fun o a w ho hf _ => by unfold execOp; rw [ho]; simp [hf.ev hx, hf.ev hy, binOp, eqGuard, Op.intCmp]⟩
theorem V.geq {k : IntKind} {t u : TypeId} {x y : Operand} {i j : Int} (hx : ev env x = some (.int k i)) (hy : ev env y = some (.int k j)) : V P n S env (.binOp .geq t x y u) (.bool (decide (j ≤ i))) :=
  ⟨fun o a w ho hf _ => by unfold execOp; rw [ho]; simp [hf.ev hx, hf.ev hy, binOp, eqGuard, Op.intCmp]⟩
theorem V.eql {k : IntKind} {t u : TypeId} {x y : Operand} {i j : Int} (hx : ev env x = some (.int k i)) (hy : ev env y = some (.int k j)) : V P n S env (.binOp .eql t x y u) (.bool (decide (i = j))) :=
  ⟨fun o a w ho hf _ => by unfold execOp; rw [ho]; simp [hf.ev hx, hf.ev hy, binOp, eqGuard, Op.intCmp]; rfl⟩
theorem V.neq {k : IntKind} {t u : TypeId} {x y : Operand} {i j : Int} (hx : ev env x = some (.int k i)) (hy : ev env y = some (.int k j)) : V P n S env (.binOp .neq t x y u) (.bool (!decide (i = j))) :=
  ⟨fun o a w ho hf _ => by unfold execOp; rw [ho]; simp [hf.ev hx, hf.ev hy, binOp, eqGuard, Op.intCmp]; rfl⟩
theorem bytes_eq (a b : List UInt8) : ((⟨a.toArray⟩ : ByteArray).toList == (⟨b.toArray⟩ : ByteArray).toList) = decide (a = b) := by
  rw [ByteArray.toList_eq, ByteArray.toList_eq, Bool.eq_iff_iff]; simp
theorem V.seql {t u : TypeId} {x y : Operand} {i j : List UInt8} (hx : ev env x = some (strV i)) (hy : ev env y = some (strV j)) : V P n S env (.binOp .eql t x y u) (.bool (decide (i = j))) :=
  ⟨fun o a w ho hf _ => by unfold execOp; rw [ho]; simp only [hf.ev hx, hf.ev hy, binOp, eqGuard, Op.stringOp, bytes_eq]; simp⟩
theorem V.sneq {t u : TypeId} {x y : Operand} {i j : List UInt8} (hx : ev env x = some (strV i)) (hy : ev env y = some (strV j)) : V P n S env (.binOp .neq t x y u) (.bool (!decide (i = j))) :=
  ⟨fun o a w ho hf _ => by unfold execOp; rw [ho]; simp only [hf.ev hx, hf.ev hy, binOp, eqGuard, Op.stringOp, bytes_eq]; simp⟩
theorem V.slss {t u : TypeId} {x y : Operand} {i j : List UInt8} (hx : ev env x = some (strV i)) (hy : ev env y = some (strV j)) : V P n S env (.binOp .lss t x y u) (.bool (Op.bytesLess i j)) :=
  ⟨fun o a w ho hf _ => by unfold execOp; rw [ho]; simp only [hf.ev hx, hf.ev hy, binOp, eqGuard, Op.stringOp, ByteArray.toList_mk]; simp⟩
theorem V.slen [Tys P] {t : TypeId} {tys : Array TypeId} {x : Operand} {l : List UInt8} {k : TyK} (ht : tys[0]? = some t) (hk : tyk P t = some k) (hd : k.desc = .str) (hx : ev env x = some (strV l)) : V P n S env (.call { callee := .builtin .len, args := #[x], argTypes := tys }) (intV l.length) :=
  ⟨fun o a w ho hf _ => by
    obtain ⟨d, hu, hf'⟩ := (tyk_ok hk).und
    rw [hd] at hf'
    simp only [TyD.fits] at hf'
    subst hf'
    unfold execOp; rw [ho]
    simp [hf.ev hx, resolve, invoke, builtin, Builtin.len_, ht, run_underlying hu, goInt]
    rfl⟩
theorem V.len [Tys P] {t e : TypeId} {tys : Array TypeId} {x : Operand} {A : Option Addr} {m c : Nat} {k : TyK} (ht : tys[0]? = some t) (hk : tyk P t = some k) (hd : k.desc = .slice e) (hx : ev env x = some (.slice A m c)) : V P n S env (.call { callee := .builtin .len, args := #[x], argTypes := tys }) (intV m) :=
  ⟨fun o a w ho hf _ => by
    obtain ⟨d, hu, hf'⟩ := (tyk_ok hk).und
    rw [hd] at hf'
    simp only [TyD.fits] at hf'
    subst hf'
    unfold execOp; rw [ho]
    simp [hf.ev hx, resolve, invoke, builtin, Builtin.len_, ht, run_underlying hu, goInt]⟩
theorem V.cap [Tys P] {t e : TypeId} {tys : Array TypeId} {x : Operand} {A : Option Addr} {m c : Nat} {k : TyK} (ht : tys[0]? = some t) (hk : tyk P t = some k) (hd : k.desc = .slice e) (hx : ev env x = some (.slice A m c)) : V P n S env (.call { callee := .builtin .cap, args := #[x], argTypes := tys }) (intV c) :=
  ⟨fun o a w ho hf _ => by
    obtain ⟨d, hu, hf'⟩ := (tyk_ok hk).und
    rw [hd] at hf'
    simp only [TyD.fits] at hf'
    subst hf'
    unfold execOp; rw [ho]
    simp [hf.ev hx, resolve, invoke, builtin, Builtin.cap_, ht, run_underlying hu, goInt]⟩
theorem V.sindex [Tys P] {t : TypeId} {x y : Operand} {l : List UInt8} {i : Int} {ik : IntKind} {k : TyK} {c : UInt8} (hk : tyk P t = some k) (hd : k.desc = .str) (hx : ev env x = some (strV l)) (hy : ev env y = some (.int ik i)) (h0 : 0 ≤ i) (hc : l[i.toNat]? = some c) : V P n S env (.index t x y) (.int .u8 c.toNat) :=
  ⟨fun o a w ho hf _ => by
    obtain ⟨d, hu, hf'⟩ := (tyk_ok hk).und
    rw [hd] at hf'
    simp only [TyD.fits] at hf'
    subst hf'
    have hc' : (⟨l.toArray⟩ : ByteArray)[i.toNat]? = some c := by
      show (if h : i.toNat < (⟨l.toArray⟩ : ByteArray).size then some _ else none) = _
      have hlt := (List.getElem?_eq_some_iff.1 hc)
      obtain ⟨h1, h2⟩ := hlt
      rw [dif_pos (by simpa [ByteArray.size] using h1)]
      exact congrArg some h2
    unfold execOp; rw [ho]
    simp [hf.ev hx, hf.ev hy, Instr.index, asIntOf, run_underlying hu, h0, hc']⟩
theorem V.fieldAddr [Tys P] {s : TypeId} {x : Operand} {f : Nat} {b o off sz : Nat} {ft : TypeId} {k : TyK} {fs : List (Nat × Nat × TypeId)} (hk : tyk P s = some k) (hd : k.desc = .struct fs) (hf : fs[f]? = some (off, sz, ft)) (h0 : Nat.beq sz 0 = false)
    (hx : ev env x = some (.pointer (some ⟨b, o, none⟩))) : V P n S env (.fieldAddr s x f) (.pointer (some ⟨b, o + off, none⟩)) :=
  ⟨fun op a w ho hfr _ => by
    obtain ⟨d, hu, hf'⟩ := (tyk_ok hk).und
    rw [hd] at hf'
    obtain ⟨fields, rfl, hmap⟩ := hf'
    have h0' : sz ≠ 0 := fun e => by subst e; simp at h0
    have hff : (fields.toList.map (fun f => (f.offset, P.cellsOf f.type, f.type)))[f]? = some (off, sz, ft) := by rw [hmap]; exact hf
    rw [List.getElem?_map] at hff
    cases hg : fields.toList[f]? with
    | none => rw [hg] at hff; cases hff
    | some fld =>
      rw [hg] at hff
      simp at hff
      obtain ⟨e1, e2, e3⟩ := hff
      have hg' : fields[f]? = some fld := by simpa using hg
      unfold execOp; rw [ho]
      simp [hfr.ev hx, Instr.fieldAt, run_underlying hu, hg', Instr.sureAddr, fieldPlace, sizeOf_of_cells e2 h0' w, h0', e1, Addr.add_mid]⟩
theorem run_load_cell [Tys P] {t : TypeId} {k : TyK} (hk : tyk P t = some k) (ha : k.desc.agg = false) {w : World} {b o : Nat} {v : Value} (hc : w.cell? ⟨b, o, none⟩ = some v) : (Instr.loadAt t (.pointer (some ⟨b, o, none⟩))).run P w = .ok v w := by
  simp only [Instr.loadAt, Instr.sureAddr, Sem.run_bind, Sem.run_pure, Result.andThen_ok, loadVar, (tyk_ok hk).isAgg w, ha]
  simp [load, Sem.run, hc]
theorem run_load_row [Tys P] {t : TypeId} {k : TyK} (hk : tyk P t = some k) (ha : k.desc.agg = true) {w : World} {b o : Nat} {cs : List Value} (hl : cs.length = k.size) (hc : ∀ j v, cs[j]? = some v → w.cell? ⟨b, o + j, none⟩ = some v) : (Instr.loadAt t (.pointer (some ⟨b, o, none⟩))).run P w = .ok (.agg cs.toArray) w := by
  have hl' : (loadCells ⟨b, o, none⟩ cs.length).run P w = .ok cs.toArray w :=
    run_loadCells_list (P := P) w ⟨b, o, none⟩ cs (fun j v hv => by rw [Addr.add_mid]; exact hc j v hv)
  rw [hl] at hl'
  simp only [Instr.loadAt, Instr.sureAddr, Sem.run_bind, Sem.run_pure, Result.andThen_ok, loadVar, (tyk_ok hk).isAgg w, ha, if_true, (tyk_ok hk).sizeOf w, hl']
theorem St.blk_cell {w : World} (hs : St w0 H0 H L w) {b : Nat} {T : TypeId} {cs : List Value} (hm : Loc.blk b T cs ∈ L) {o : Nat} {v : Value} (hv : cs[o]? = some v) : w.cell? ⟨b, o, none⟩ = some v := by
  have := (hs.ok _ hm).2
  unfold World.cell?
  simp [this, hv]
theorem V.load_loc [Tys P] {t : TypeId} {x : Operand} {b o : Nat} {T : TypeId} {cs : List Value} {k : TyK} {v : Value} (hk : tyk P t = some k) (ha : k.desc.agg = false) (hx : ev env x = some (.pointer (some ⟨b, o, none⟩))) (hm : Loc.blk b T cs ∈ L) (hv : cs[o]? = some v) :
    V P n (St w0 H0 H L) env (.load t x) v :=
  ⟨fun op a w ho hf hs => by
    unfold execOp; rw [ho]; simp only [hf.ev hx, Sem.run_bind, run_load_cell hk ha (hs.blk_cell hm hv)]; rfl⟩
theorem V.load_loc_row [Tys P] {t : TypeId} {x : Operand} {b o : Nat} {T : TypeId} {cs vs : List Value} {k : TyK} (hk : tyk P t = some k) (ha : k.desc.agg = true) (hx : ev env x = some (.pointer (some ⟨b, o, none⟩))) (hm : Loc.blk b T cs ∈ L) (hv : (cs.drop o).take k.size = vs) (hl : vs.length = k.size) :
    V P n (St w0 H0 H L) env (.load t x) (.agg vs.toArray) :=
  ⟨fun op a w ho hf hs => by
    unfold execOp; rw [ho]
    have : (Instr.loadAt t (.pointer (some ⟨b, o, none⟩))).run P w = .ok (.agg vs.toArray) w := run_load_row hk ha hl fun j v hj => by
      refine hs.blk_cell hm ?_
      rw [← hv, List.getElem?_take] at hj
      by_cases hjk : j < k.size
      · rw [if_pos hjk, List.getElem?_drop] at hj; exact hj
      · rw [if_neg hjk] at hj; cases hj
    simp only [hf.ev hx, Sem.run_bind, this]; rfl⟩
theorem V.load_H [Tys P] {t : TypeId} {x : Operand} {b o : Nat} {k : TyK} {v : Value} (hk : tyk P t = some k) (ha : k.desc.agg = false) (hx : ev env x = some (.pointer (some ⟨b, o, none⟩))) (hv : H.cell b o = some v) : V P n (St w0 H0 H L) env (.load t x) v :=
  ⟨fun op a w ho hf hs => by
    unfold execOp; rw [ho]; simp only [hf.ev hx, Sem.run_bind, run_load_cell hk ha (hs.sat.cell hv)]; rfl⟩
theorem V.load_H_row [Tys P] {t : TypeId} {x : Operand} {b o : Nat} {k : TyK} {vs : List Value} (hk : tyk P t = some k) (ha : k.desc.agg = true) (hx : ev env x = some (.pointer (some ⟨b, o, none⟩))) (hv : H.cells b o vs) (hl : vs.length = k.size) : V P n (St w0 H0 H L) env (.load t x) (.agg vs.toArray) :=
  ⟨fun op a w ho hf hs => by
    unfold execOp; rw [ho]; simp only [hf.ev hx, Sem.run_bind, run_load_row hk ha hl (fun j v hj => hs.sat.cell (hv j v hj))]; rfl⟩
theorem V.indexAddr [Tys P] {t e : TypeId} {x y : Operand} {b o m c : Nat} {i : Int} {k ke : TyK} {ik : IntKind} (hk : tyk P t = some k) (hd : k.desc = .slice e) (hke : tyk P e = some ke) (hx : ev env x = some (.slice (some ⟨b, o, none⟩) m c)) (hy : ev env y = some (.int ik i)) (h0 : 0 ≤ i) (h1 : i < m) :
    V P n S env (.indexAddr t x y) (.pointer (some ⟨b, o + i.toNat * ke.size, none⟩)) :=
  ⟨fun op a w ho hf hs => by
    obtain ⟨d, hu, hf'⟩ := (tyk_ok hk).und
    rw [hd] at hf'
    simp only [TyD.fits] at hf'
    subst hf'
    unfold execOp; rw [ho]
    simp [hf.ev hx, hf.ev hy, Instr.indexAt, asIntOf, run_underlying hu, h0, h1, (tyk_ok hke).sizeOf w, Addr.add_mid]⟩
end
end Go.Proofs.YthabgdbhgcgemaaGreatDoor
namespace Go.Proofs.YthabgdbhgcgemaaGreatDoor
set_option linter.unusedVariables false
set_option linter.unusedSimpArgs false
open Go Go.RowKit
section
variable {P : Program} {n : FK} {w0 : World} {H0 H : Hp} {Q : Exit → Act → World → Prop} {env : List (Nat × Value)} {L : List Loc} {ops rest : List Oper}
structure X (P : Program) (n : FK) (w0 : World) (H0 : Hp) (env : List (Nat × Value)) (H : Hp) (L : List Loc) (o : Oper) (grow : Bool) {G : Type} (φ : G → Prop) (E : G → List (Nat × Value)) (HH : G → Hp) (LL : G → List Loc) : Prop where
  out : ∀ a w, Fr n env a → St w0 H0 H L w → ∀ (K : Act → World → Prop) (Q : Exit → Act → World → Prop), (∀ g a' w', φ g → (grow = true → Below w.heap.size w w') → Fr n (E g) a' → St w0 H0 (HH g) (LL g) w' → K a' w') → o.wp P a w K Q
theorem TL.x {o : Oper} {grow : Bool} {G : Type} {φ : G → Prop} {E : G → List (Nat × Value)} {HH : G → Hp} {LL : G → List Loc} (hnd : nd o = true) (hw : want ops env o = some true) (hx : X P n w0 H0 env H L o grow φ E HH LL)
    (h : ∀ g, φ g → TL P n w0 H0 ops Q rest (E g) (HH g) (LL g)) : TL P n w0 H0 ops Q (o :: rest) env H L :=
  TL.op hnd hw fun a w hf hs => hx.out a w hf hs _ _ fun g a' w' hg _ hf' hs' => (h g hg).out a' w' hf' hs'
theorem X.box {d : Nat} {t ty : TypeId} {x : Operand} {pos : String} {after : Array Edge} {g : Option (Nat × Bool)} {v : Value} {cs : List Value} (hn : Nat.blt d n.n = true) (hx : ev env x = some v) (hc : v.cells = cs.toArray) :
    X P n w0 H0 env H L ⟨some d, .box t x, ty, pos, after, g⟩ true (G := Nat) (fun _ => True) (fun b => (d, .pointer (some ⟨b, 0, none⟩)) :: env) (fun _ => H) (fun b => .blk b t cs :: L) :=
  ⟨fun a w hf hs K Q hK => by
    unfold Oper.wp
    have : (execOp a.eval ⟨some d, .box t x, ty, pos, after, g⟩).run P w = .ok (.value (.pointer (some ⟨w.heap.size, 0, none⟩))) (w.alloc (.cells cs.toArray t)) := by
      unfold execOp
      simp [hf.ev hx, Instr.box, newVar, newRow, newObj, hc]
      rfl
    rw [this]
    exact hK _ _ _ trivial (fun _ => (Below.refl _ _).alloc (Nat.le_refl _) _) (hf.put hn _) (hs.blk t cs)⟩
theorem X.alloc [Tys P] {d : Nat} {t ty : TypeId} {pos : String} {after : Array Edge} {g : Option (Nat × Bool)} {k : TyK} {cs : List Value} (hn : Nat.blt d n.n = true) (hk : tyk P t = some k) (hc : k.zero.cells = cs.toArray) :
    X P n w0 H0 env H L ⟨some d, .alloc t, ty, pos, after, g⟩ true (G := Nat) (fun _ => True) (fun b => (d, .pointer (some ⟨b, 0, none⟩)) :: env) (fun _ => H) (fun b => .blk b t cs :: L) :=
  ⟨fun a w hf hs K Q hK => by
    unfold Oper.wp
    obtain ⟨i, hi, _, _, hz⟩ := (tyk_ok hk).get
    have : (execOp a.eval ⟨some d, .alloc t, ty, pos, after, g⟩).run P w = .ok (.value (.pointer (some ⟨w.heap.size, 0, none⟩))) (w.alloc (.cells cs.toArray t)) := by
      unfold execOp
      simp [Instr.alloc, zeroValue, typeInfo, hi, hz, newVar, newRow, newObj, hc]
      rfl
    rw [this]
    exact hK _ _ _ trivial (fun _ => (Below.refl _ _).alloc (Nat.le_refl _) _) (hf.put hn _) (hs.blk t cs)⟩
structure Is (e : Bool) (p q : Prop) : Prop where
  yes : e = true → p
  no : e = false → q
theorem Is.ndec {p : Prop} {inst : Decidable p} : Is (!@decide p inst) (¬ p) p := ⟨fun h => by simpa using h, fun h => by simpa using h⟩
theorem Is.dec {p : Prop} {inst : Decidable p} : Is (@decide p inst) p (¬ p) := ⟨fun h => of_decide_eq_true h, fun h => of_decide_eq_false h⟩
theorem Is.not {e : Bool} : Is (!e) (e = false) (e = true) := ⟨fun h => by simpa using h, fun h => by simpa using h⟩
theorem Is.base {e : Bool} : Is e (e = true) (e = false) := ⟨id, id⟩
theorem Is.litT : Is true True False := ⟨fun _ => trivial, (fun h => by cases h)⟩
theorem Is.litF : Is false False True := ⟨(fun h => by cases h), fun _ => trivial⟩
theorem TL.guard {o : Oper} {j d : Nat} {b : Bool} {op : Op} {ty : TypeId} {pos : String} {after : Array Edge} {g : Option (Nat × Bool)} {e : Bool} {p q : Prop} (_hg : o.guard = some (j, b)) (_hj : ops[j]? = some ⟨some d, op, ty, pos, after, g⟩) (hx : look d env = some (.bool e)) (hd : Is e p q)
    (ht : p → TL P n w0 H0 ops Q (o :: rest) ((d, .bool true) :: env) H L) (hf : q → TL P n w0 H0 ops Q (o :: rest) ((d, .bool false) :: env) H L) : TL P n w0 H0 ops Q (o :: rest) env H L :=
  TL.part d hx (fun h => ht (hd.yes h)) (fun h => hf (hd.no h))
theorem T.test {c : Operand} {x y : Code} {e : Bool} {p q : Prop} (hc : ev env c = some (.bool e)) (hd : Is e p q) (ht : p → T P n w0 H0 x Q env H L) (he : q → T P n w0 H0 y Q env H L) : T P n w0 H0 (.cond c x y) Q env H L :=
  T.cond hc (fun h => ht (hd.yes h)) (fun h => he (hd.no h))
theorem N.next {y : Code} {Q' : Exit → Act → World → Prop} (h : T P n w0 H0 y Q env H L) : N n w0 H0 (Exit.then (y.wpIn (FW n.r) 0 P Q) Q') .normal env H L := ⟨h.out⟩
theorem N.inBlock {id : Nat} (h : N n w0 H0 Q .normal env H L) : N n w0 H0 (Exit.inBlock id Q) .normal env H L := ⟨h.out⟩
theorem N.exit_same {id : Nat} (h : N n w0 H0 Q .normal env H L) : N n w0 H0 (Exit.inBlock id Q) (.exit id) env H L := ⟨fun a w hf hs => by
  show (if id = id then Q .normal a w else Q (.exit id) a w)
  rw [if_pos rfl]; exact h.out a w hf hs⟩
theorem N.exit_other {id id' : Nat} (hne : Nat.beq id' id = false) (h : N n w0 H0 Q (.exit id') env H L) : N n w0 H0 (Exit.inBlock id Q) (.exit id') env H L := ⟨fun a w hf hs => by
  show (if id' = id then Q .normal a w else Q (.exit id') a w)
  rw [if_neg (by rintro rfl; simp at hne)]; exact h.out a w hf hs⟩
theorem N.exit_then {id : Nat} {K : Act → World → Prop} (h : N n w0 H0 Q (.exit id) env H L) : N n w0 H0 (Exit.then K Q) (.exit id) env H L := ⟨h.out⟩
theorem N.ret_then {K : Act → World → Prop} (h : N n w0 H0 Q .ret env H L) : N n w0 H0 (Exit.then K Q) .ret env H L := ⟨h.out⟩
theorem N.ret_block {id : Nat} (h : N n w0 H0 Q .ret env H L) : N n w0 H0 (Exit.inBlock id Q) .ret env H L := ⟨h.out⟩
theorem T.ret (h : N n w0 H0 Q .ret env H L) : T P n w0 H0 .ret Q env H L := ⟨fun a w hf hs => wpIn_ret (h.out a w hf hs)⟩
theorem N.round {G : Type} {E : G → List (Nat × Value)} {HH : G → Hp} {LL : G → List Loc} {φ : G → Prop} {μ : G → Nat} {m : Nat} (g : G) (h : φ g) (hm : μ g < m) (hE : Sub (E g) env) (hH : HH g = H) (hL : List.Sublist (LL g) L) :
    N n w0 H0 (Exit.then (fun a w => ∃ g', φ g' ∧ μ g' < m ∧ Fr n (E g') a ∧ St w0 H0 (HH g') (LL g') w) Q) .normal env H L := ⟨fun _ _ hf hs => ⟨g, h, hm, hf.sub hE, by rw [hH]; exact hs.sub hL⟩⟩
theorem N.cut {G : Type} {E : G → List (Nat × Value)} {HH : G → Hp} {LL : G → List Loc} {φ : G → Prop} (g : G) (h : φ g) (hE : Sub (E g) env) (hH : HH g = H) (hL : List.Sublist (LL g) L) :
    N n w0 H0 (Exit.then (fun a w => ∃ g', φ g' ∧ Fr n (E g') a ∧ St w0 H0 (HH g') (LL g') w) Q) .normal env H L := ⟨fun _ _ hf hs => ⟨g, h, hf.sub hE, by rw [hH]; exact hs.sub hL⟩⟩
def headIs : Code → Nat → Bool
  | .region id _ _, k => Nat.beq id k
  | .seq x _, k => headIs x k
  | .block _ c, k => headIs c k
  | .loop c, k => headIs c k
  | _, _ => false
theorem T.seqU (k : Nat) {x y : Code} (hk : headIs y k = false) (h : T P n w0 H0 x (Exit.then (y.wpIn (FW n.r) 0 P Q) Q) env H L) : T P n w0 H0 (.seq x y) Q env H L := T.seq h
def putCells : List Value → Nat → List Value → List Value
  | cs, _, [] => cs
  | cs, o, v :: vs => putCells (cs.set o v) (o + 1) vs
theorem pairwise_set {α : Type} {R : α → α → Prop} : ∀ {l : List α} {i : Nat} {x y : α}, l.Pairwise R → l[i]? = some x → (∀ z, R x z → R y z) → (∀ z, R z x → R z y) → (l.set i y).Pairwise R
  | [], _, _, _, _, h, _, _ => by simp at h
  | a :: l, 0, x, y, hp, h, h1, _ => by
    simp at h; subst h
    cases hp with
    | cons ha hl => exact .cons (fun z hz => h1 z (ha z hz)) hl
  | a :: l, i + 1, x, y, hp, h, h1, h2 => by
    simp at h
    cases hp with
    | cons ha hl =>
      refine .cons (fun z hz => ?_) (pairwise_set hl h h1 h2)
      rcases List.mem_or_eq_of_mem_set hz with hz | rfl
      · exact ha z hz
      · exact h2 a (ha x (List.mem_of_getElem? h))
theorem St.set {w w' : World} (hs : St w0 H0 H L w) {i b : Nat} {e e' : Loc} (hi : L[i]? = some e) (hb : e.at = some b) (hb' : e'.at = some b) (hk : ∀ k, k ≠ b → w'.heap[k]? = w.heap[k]?) (hsz : w'.heap.size = w.heap.size)
    (hos : w'.os = w.os) (htape : w'.tape = w.tape) (hout : w'.output = w.output) (hdr : w.drawn ≤ w'.drawn) (hok : e'.ok w0.heap.size w') : St w0 H0 H (L.set i e') w' := by
  have hme := List.mem_of_getElem? hi
  have hbase := ((hs.ok e hme).lt hb).2
  have hne : H b = none := hs.out e hme b hb
  refine ⟨⟨hos.trans hs.below.os, htape.trans hs.below.tape, hout.trans hs.below.output, by rw [hsz]; exact hs.below.size, fun k hk' => (hk k (by omega)).trans (hs.below.block k hk'), Nat.le_trans hs.below.drawn hdr⟩, fun k o ho => ?_, hs.le, hs.new, ?_, ?_, ?_⟩
  · rw [hk k (by rintro rfl; rw [hne] at ho; cases ho)]; exact hs.sat k o ho
  · intro f hf
    obtain ⟨j, hj⟩ := List.getElem?_of_mem hf
    rw [List.getElem?_set] at hj
    by_cases hij : i = j
    · subst hij
      simp only [if_true] at hj
      split at hj
      · cases hj; exact hok
      · cases hj
    · rw [if_neg hij] at hj
      have hfm := List.mem_of_getElem? hj
      refine (hs.ok f hfm).keep fun c hc => hk c ?_
      rintro rfl
      have hap := hs.apart
      rw [List.pairwise_iff_getElem] at hap
      obtain ⟨hil, hie⟩ := List.getElem?_eq_some_iff.1 hi
      obtain ⟨hjl, hje⟩ := List.getElem?_eq_some_iff.1 hj
      rcases Nat.lt_or_ge i j with hlt | hge
      · exact hap i j hil hjl hlt c (by rw [hie]; exact hb) (by rw [hje]; exact hc)
      · exact hap j i hjl hil (by omega) c (by rw [hje]; exact hc) (by rw [hie]; exact hb)
  · intro f hf c hc
    rcases List.mem_or_eq_of_mem_set hf with hf | rfl
    · exact hs.out f hf c hc
    · rw [hb'] at hc; cases hc; exact hne
  · refine pairwise_set hs.apart hi (fun z hz c hc => ?_) (fun z hz c hc hc2 => ?_)
    · rw [hb'] at hc; cases hc; exact hz b hb
    · rw [hb'] at hc2; cases hc2; exact hz b hc hb
theorem setCells_drawn (b : Nat) : ∀ (vs : List Value) (o : Nat) (w : World), w.drawn ≤ (w.setCells b o vs).drawn
  | [], _, _ => Nat.le_refl _
  | v :: vs, o, w => by
    rw [World.setCells]
    exact setCells_drawn b vs (o + 1) (w.setCell ⟨b, o, none⟩ v)
theorem heap_setCells (b : Nat) : ∀ (vs : List Value) (o : Nat) (w : World) (k : Nat), k ≠ b → (w.setCells b o vs).heap[k]? = w.heap[k]?
  | [], _, _, _, _ => rfl
  | v :: vs, o, w, k, hk => by
    rw [World.setCells, heap_setCells b vs (o + 1) _ k hk]
    exact Below.heap_setCell w _ v k hk
theorem setCells_blk (b : Nat) (T : TypeId) : ∀ (vs : List Value) (o : Nat) (w : World) (cs : List Value), w.heap[b]? = some (.cells cs.toArray T (0, 0)) → o + vs.length ≤ cs.length →
    (w.setCells b o vs).heap[b]? = some (.cells (putCells cs o vs).toArray T (0, 0))
  | [], o, w, cs, h, hl => by simp [World.setCells, putCells, h]
  | v :: vs, o, w, cs, h, hl => by
    simp only [List.length_cons] at hl
    have h1 : (w.setCell ⟨b, o, none⟩ v).heap[b]? = some (.cells (cs.set o v).toArray T (0, 0)) := by
      simp [World.setCell, Array.getElem?_modify, h]
    rw [World.setCells, setCells_blk b T vs (o + 1) _ _ h1 (by simp; omega)]
    rfl
theorem St.store {w : World} (hs : St w0 H0 H L w) {i b o : Nat} {T : TypeId} {cs vs : List Value} (hi : L[i]? = some (.blk b T cs)) (hl : o + vs.length ≤ cs.length) : St w0 H0 H (L.set i (.blk b T (putCells cs o vs))) (w.setCells b o vs) := by
  have hb := hs.ok _ (List.mem_of_getElem? hi)
  have key : ∀ (vs : List Value) (o : Nat) (w : World), (w.setCells b o vs).heap.size = w.heap.size ∧ (w.setCells b o vs).os = w.os ∧ (w.setCells b o vs).tape = w.tape ∧ (w.setCells b o vs).output = w.output := by
    intro vs
    induction vs with
    | nil => intro o w; exact ⟨rfl, rfl, rfl, rfl⟩
    | cons v vs ih =>
      intro o w
      rw [World.setCells]
      obtain ⟨h1, h2, h3, h4⟩ := ih (o + 1) (w.setCell ⟨b, o, none⟩ v)
      exact ⟨h1.trans (by simp [World.setCell]), h2, h3, h4⟩
  obtain ⟨h1, h2, h3, h4⟩ := key vs o w
  exact hs.set hi rfl rfl (fun k hk => heap_setCells b vs o w k hk) h1 h2 h3 h4 (setCells_drawn b vs o w) ⟨hb.1, setCells_blk b T vs o w cs hb.2 hl⟩
theorem run_store_blk [Tys P] {t : TypeId} {k : TyK} (hk : tyk P t = some k) {w : World} {b o : Nat} {T : TypeId} {cs vs : List Value} {v : Value} (hb : w.heap[b]? = some (.cells cs.toArray T (0, 0))) (hv : v.cells = vs.toArray) (hl : vs.length = k.size) (h1 : vs.all (·.oneCell') = true) (ho : o + vs.length ≤ cs.length) :
    (Instr.storeAt t (.pointer (some ⟨b, o, none⟩)) v).run P w = .ok () (w.setCells b o vs) := by
  have hcell : ∀ j, j < vs.length → (w.cell? ⟨b, o + 0 + j, none⟩).isSome = true := fun j hj => by
    unfold World.cell?
    simp [hb]; omega
  have hfr : ∀ j, j < vs.length → w.frozen? ⟨b, o + 0 + j, none⟩ = false := fun j hj => by
    unfold World.frozen?
    simp [hb]
  have hst := run_storeCells_cells (P := P) b o vs 0 w hcell hfr (fun v hv => List.all_eq_true.1 h1 v hv)
  rw [Nat.add_zero] at hst
  have hsz : v.cells.size = k.size := by rw [hv]; simpa using hl
  simp [Instr.storeAt, Instr.sureAddr, storeVar, (tyk_ok hk).sizeOf w, hsz]
  rw [hv]
  exact hst
theorem X.store [Tys P] {t ty : TypeId} {p x : Operand} {pos : String} {after : Array Edge} {g : Option (Nat × Bool)} {b o : Nat} {T : TypeId} {cs vs : List Value} {v : Value} {k : TyK} (i : Nat) (hk : tyk P t = some k)
    (hp : ev env p = some (.pointer (some ⟨b, o, none⟩))) (hx : ev env x = some v) (hi : L[i]? = some (.blk b T cs)) (hv : v.cells = vs.toArray) (hl : vs.length = k.size) (h1 : vs.all (·.oneCell') = true) (ho : Nat.ble (o + vs.length) cs.length = true)
    {L' : List Loc} (hL' : L.set i (.blk b T (putCells cs o vs)) = L') : X P n w0 H0 env H L ⟨none, .store t p x, ty, pos, after, g⟩ false (G := Unit) (fun _ => True) (fun _ => env) (fun _ => H) (fun _ => L') :=
  ⟨fun a w hf hs K Q hK => by
    unfold Oper.wp
    have ho' : o + vs.length ≤ cs.length := Nat.le_of_ble_eq_true ho
    have hrun := run_store_blk hk ((hs.ok _ (List.mem_of_getElem? hi)).2) hv hl h1 ho'
    have : (execOp a.eval ⟨none, .store t p x, ty, pos, after, g⟩).run P w = .ok .skip (w.setCells b o vs) := by
      unfold execOp
      simp only [hf.ev hp, hf.ev hx, Sem.run_bind, hrun]
      rfl
    rw [this]
    subst hL'
    exact hK () _ _ trivial (fun h => by cases h) (hf.put_none _) (hs.store hi ho')⟩
def evs (env : List (Nat × Value)) : List Operand → Option (List Value)
  | [] => some []
  | x :: r =>
    match ev env x, evs env r with
    | some v, some l => some (v :: l)
    | _, _ => none
theorem Fr.evs {a : Act} (h : Fr n env a) : ∀ {xs : List Operand} {vs : List Value}, evs env xs = some vs → xs.map a.eval = vs
  | [], vs, hx => by simp [Go.Proofs.YthabgdbhgcgemaaGreatDoor.evs] at hx; simp [hx]
  | x :: r, vs, hx => by
    simp only [Go.Proofs.YthabgdbhgcgemaaGreatDoor.evs] at hx
    cases h1 : Go.Proofs.YthabgdbhgcgemaaGreatDoor.ev env x with
    | none => rw [h1] at hx; cases hx
    | some v =>
      cases h2 : Go.Proofs.YthabgdbhgcgemaaGreatDoor.evs env r with
      | none => rw [h1, h2] at hx; cases hx
      | some l =>
        rw [h1, h2] at hx
        simp at hx
        subst hx
        simp [h.ev h1, h.evs h2]
def Ret (w : World) (v : Value) : Ending → World → Prop := fun e w' => e = .returned v ∧ Below w.heap.size w w'
def RetF {G : Type} (w : World) (H : Hp) (φ : G → Prop) (v : G → Value) (H' : G → Hp) : Ending → World → Prop := fun e w' => ∃ g, φ g ∧ e = .returned (v g) ∧ Fresh w H (H' g) w'
theorem run_call {a : Act} {w : World} {o : Oper} {x : Operand} {args : Array Operand} {tys : Array TypeId} (ho : o.op = .call { callee := .value x, args := args, argTypes := tys }) {f : FuncId} {first cap : Array Value} {vs : List Value}
    (hx : a.eval x = .func (.func f) first cap) (hargs : args.toList.map a.eval = vs) (hcall : ∀ (args : Array Value) (w : World), (callFunc f args).run P w = .ok (.enter f args) w) :
    (execOp a.eval o).run P w = .ok (.enter f (first ++ vs.toArray ++ cap)) w := by
  have : args.map a.eval = vs.toArray := by apply Array.toList_inj.1; simpa using hargs
  unfold execOp
  rw [ho]
  simp [resolve, hx, Deferred.ofValue, invoke, this, hcall]
theorem TL.call {d : Nat} {x : Operand} {args : Array Operand} {tys : Array TypeId} {ty : TypeId} {pos : String} {after : Array Edge} {g : Option (Nat × Bool)} {f : FuncId} {first cap : Array Value} {vs : List Value} {v : Value} (hn : Nat.blt d n.n = true)
    (hw : want ops env ⟨some d, .call { callee := .value x, args := args, argTypes := tys }, ty, pos, after, g⟩ = some true) (hx : ev env x = some (.func (.func f) first cap)) (hargs : evs env args.toList = some vs)
    (hcall : ∀ (args : Array Value) (w : World), (callFunc f args).run P w = .ok (.enter f args) w)
    (hc : ∀ w, St w0 H0 H L w → Calls P f (first ++ vs.toArray ++ cap) w (Ret w v)) (h : TL P n w0 H0 ops Q rest ((d, v) :: env) H L) :
    TL P n w0 H0 ops Q (⟨some d, .call { callee := .value x, args := args, argTypes := tys }, ty, pos, after, g⟩ :: rest) env H L :=
  TL.op rfl hw fun a w hf hs => by
    unfold Oper.wp
    rw [run_call rfl (hf.ev hx) (hf.evs hargs) hcall]
    refine Calls.mono (hc w hs) fun e w' ⟨he, hb⟩ => ?_
    subst he
    exact h.out _ _ (hf.put hn v) (hs.grow hb)
theorem TL.call0 {d : Nat} {f : FuncId} {args : Array Operand} {tys : Array TypeId} {ty : TypeId} {pos : String} {after : Array Edge} {g : Option (Nat × Bool)} {vs : List Value} {v : Value}
    (hcall : ∀ (args : Array Value) (w : World), (callFunc f args).run P w = .ok (.enter f args) w) (hn : Nat.blt d n.n = true)
    (hw : want ops env ⟨some d, .call { callee := .value (.func f), args := args, argTypes := tys }, ty, pos, after, g⟩ = some true) (hargs : evs env args.toList = some vs)
    (hc : ∀ w, St w0 H0 H L w → Calls P f vs.toArray w (Ret w v)) (h : TL P n w0 H0 ops Q rest ((d, v) :: env) H L) :
    TL P n w0 H0 ops Q (⟨some d, .call { callee := .value (.func f), args := args, argTypes := tys }, ty, pos, after, g⟩ :: rest) env H L :=
  TL.call hn hw (by rfl) hargs hcall (fun w hs => by simpa using hc w hs) h
theorem X.callF {G : Type} {φ : G → Prop} {v : G → Value} {H' : G → Hp} {d : Nat} {x : Operand} {args : Array Operand} {tys : Array TypeId} {ty : TypeId} {pos : String} {after : Array Edge} {g : Option (Nat × Bool)} {f : FuncId} {first cap : Array Value} {vs : List Value} (hn : Nat.blt d n.n = true)
    (hx : ev env x = some (.func (.func f) first cap)) (hargs : evs env args.toList = some vs)
    (hcall : ∀ (args : Array Value) (w : World), (callFunc f args).run P w = .ok (.enter f args) w)
    (hc : ∀ w, St w0 H0 H L w → Calls P f (first ++ vs.toArray ++ cap) w (RetF w H φ v H')) :
    X P n w0 H0 env H L ⟨some d, .call { callee := .value x, args := args, argTypes := tys }, ty, pos, after, g⟩ true (fun g => φ g ∧ H.le (H' g)) (fun g => (d, v g) :: env) H' (fun _ => L) :=
  ⟨fun a w hf hs K Q hK => by
    unfold Oper.wp
    rw [run_call rfl (hf.ev hx) (hf.evs hargs) hcall]
    refine Calls.mono (hc w hs) fun e w' ⟨g, hg, he, hb⟩ => ?_
    subst he
    exact hK g _ _ ⟨hg, hb.le⟩ (fun _ => hb.below) (hf.put hn _) (hs.call hb)⟩
theorem X.callF0 {G : Type} {φ : G → Prop} {v : G → Value} {H' : G → Hp} {d : Nat} {f : FuncId} {args : Array Operand} {tys : Array TypeId} {ty : TypeId} {pos : String} {after : Array Edge} {g : Option (Nat × Bool)} {vs : List Value}
    (hcall : ∀ (args : Array Value) (w : World), (callFunc f args).run P w = .ok (.enter f args) w) (hn : Nat.blt d n.n = true)
    (hargs : evs env args.toList = some vs) (hc : ∀ w, St w0 H0 H L w → Calls P f vs.toArray w (RetF w H φ v H')) :
    X P n w0 H0 env H L ⟨some d, .call { callee := .value (.func f), args := args, argTypes := tys }, ty, pos, after, g⟩ true (fun g => φ g ∧ H.le (H' g)) (fun g => (d, v g) :: env) H' (fun _ => L) :=
  X.callF hn (by rfl) hargs hcall (fun w hs => by simpa using hc w hs)
def argEnv : Nat → List Value → List (Nat × Value)
  | _, [] => []
  | i, v :: r => (i, v) :: argEnv (i + 1) r
theorem look_argEnv : ∀ (vs : List Value) (i t : Nat) (v : Value), look t (argEnv i vs) = some v → i ≤ t ∧ vs[t - i]? = some v
  | [], _, _, _, h => by cases h
  | u :: r, i, t, v, h => by
    simp only [argEnv, look] at h
    by_cases e : i = t
    · subst e
      simp at h
      simp [h]
    · rw [beq_no e] at h
      obtain ⟨h1, h2⟩ := look_argEnv r (i + 1) t v h
      refine ⟨by omega, ?_⟩
      rw [show t - i = (t - (i + 1)) + 1 by omega]
      simpa using h2
theorem T.enter {f : FuncId} {fn : Func} {c : Code} {vs : List Value} {w : World} {R : Ending → World → Prop} (hf : P.funcs[f]? = some fn) (hb : fn.body = some c) {m : Nat} (hn : fn.ntmps = m) (hl : Nat.ble vs.length m = true) (hs : Sat H w)
    (h : T P ⟨m, [], none⟩ w H c (bodyPost P fn R) (argEnv 0 vs) H []) : Calls P f vs.toArray w R := by
  refine callsFW' (r := none) (callsIn_of_wp hf hb trivial (h.out _ w ⟨rfl, ?_, fun t v hv => ?_⟩ (St.start w H hs)))
  · have := Nat.le_of_ble_eq_true hl
    simp [hn]; omega
  · obtain ⟨_, h2⟩ := look_argEnv vs 0 t v hv
    rw [Nat.sub_zero] at h2
    have hlt : t < vs.length := (List.getElem?_eq_some_iff.1 h2).1
    rw [Array.getElem?_append_left (by simpa using hlt)]
    simpa using h2
def resOne (tmps : Array Value) : ResultVar → Sem Value
  | .tmp t => pure (tmps.getD t undef)
  | .cell a t => do loadVar t (← asAddr (tmps.getD a undef))
def RV (P : Program) (n : FK) (w0 : World) (H0 : Hp) (env : List (Nat × Value)) (H : Hp) (L : List Loc) (r : ResultVar) (v : Value) : Prop :=
  ∀ a w, Fr n env a → St w0 H0 H L w → (resOne a.tmps r).run P w = .ok v w
theorem RV.tmp {t : Nat} {v : Value} (h : look t env = some v) : RV P n w0 H0 env H L (.tmp t) v := fun a w hf _ => by
  have := hf.vals t v h
  simp [resOne, Array.getD_eq_getD_getElem?, this]
theorem RV.cell [Tys P] {t : Nat} {T T' : TypeId} {b : Nat} {k : TyK} {v : Value} (h : look t env = some (.pointer (some ⟨b, 0, none⟩))) (hk : tyk P T = some k) (ha : k.desc.agg = false) (hm : Loc.blk b T' [v] ∈ L) : RV P n w0 H0 env H L (.cell t T) v := fun a w hf hs => by
  have h1 := hf.vals t _ h
  have h2 := run_load_cell hk ha (hs.blk_cell hm (o := 0) rfl)
  simp only [Instr.loadAt, Instr.sureAddr, Sem.run_bind, Sem.run_pure, Result.andThen_ok] at h2
  simp [resOne, Array.getD_eq_getD_getElem?, h1, asAddr, h2]
theorem RV.row [Tys P] {t : Nat} {T T' : TypeId} {b : Nat} {k : TyK} {cs : List Value} (h : look t env = some (.pointer (some ⟨b, 0, none⟩))) (hk : tyk P T = some k) (ha : k.desc.agg = true) (hm : Loc.blk b T' cs ∈ L) (hl : cs.length = k.size) : RV P n w0 H0 env H L (.cell t T) (.agg cs.toArray) := fun a w hf hs => by
  have h1 := hf.vals t _ h
  have h2 := run_load_row hk ha (w := w) (b := b) (o := 0) hl (fun j v hj => by rw [Nat.zero_add]; exact hs.blk_cell hm hj)
  simp only [Instr.loadAt, Instr.sureAddr, Sem.run_bind, Sem.run_pure, Result.andThen_ok] at h2
  simp [resOne, Array.getD_eq_getD_getElem?, h1, asAddr, h2]
theorem results_eq (fn : Func) (tmps : Array Value) : results fn tmps = (do let vs ← fn.results.mapM (resOne tmps); pure (if h : vs.size = 1 then vs[0] else .tuple vs)) := by
  unfold results
  congr 1
theorem N.ret1 {m : Nat} {ro : Option Nat} {fn : Func} {R : Ending → World → Prop} {r : ResultVar} {v : Value} (hr : fn.results = #[r]) (h1 : RV P ⟨m, [], ro⟩ w0 H0 env H L r v) (h : ∀ w, St w0 H0 H L w → R (.returned v) w) : N ⟨m, [], ro⟩ w0 H0 (bodyPost P fn R) .ret env H L :=
  ⟨fun a w hf hs => ⟨hf.defers, v, by rw [results_eq, hr]; simp [h1 a w hf hs], h w hs⟩⟩
theorem N.ret_bool {m : Nat} {ro : Option Nat} {fn : Func} {r : ResultVar} {e v : Bool} (hr : fn.results = #[r]) (h1 : RV P ⟨m, [], ro⟩ w0 H0 env H L r (.bool e)) (he : e = v) : N ⟨m, [], ro⟩ w0 H0 (bodyPost P fn (Ret w0 (.bool v))) .ret env H L :=
  N.ret1 hr h1 fun _ hs => ⟨by rw [he], hs.below⟩
theorem N.ret_int {m : Nat} {ro : Option Nat} {fn : Func} {r : ResultVar} {k : IntKind} {e v : Int} (hr : fn.results = #[r]) (h1 : RV P ⟨m, [], ro⟩ w0 H0 env H L r (.int k e)) (he : e = v) : N ⟨m, [], ro⟩ w0 H0 (bodyPost P fn (Ret w0 (.int k v))) .ret env H L :=
  N.ret1 hr h1 fun _ hs => ⟨by rw [he], hs.below⟩
theorem N.ret_val {m : Nat} {ro : Option Nat} {fn : Func} {r : ResultVar} {e v : Value} (hr : fn.results = #[r]) (h1 : RV P ⟨m, [], ro⟩ w0 H0 env H L r e) (he : e = v) : N ⟨m, [], ro⟩ w0 H0 (bodyPost P fn (Ret w0 v)) .ret env H L :=
  N.ret1 hr h1 fun _ hs => ⟨by rw [he], hs.below⟩
theorem N.ret2 {m : Nat} {ro : Option Nat} {fn : Func} {R : Ending → World → Prop} {r s : ResultVar} {v u : Value} (hr : fn.results = #[r, s]) (h1 : RV P ⟨m, [], ro⟩ w0 H0 env H L r v) (h2 : RV P ⟨m, [], ro⟩ w0 H0 env H L s u) (h : ∀ w, St w0 H0 H L w → R (.returned (.tuple #[v, u])) w) : N ⟨m, [], ro⟩ w0 H0 (bodyPost P fn R) .ret env H L :=
  ⟨fun a w hf hs => ⟨hf.defers, .tuple #[v, u], by rw [results_eq, hr]; simp [h1 a w hf hs, h2 a w hf hs], h w hs⟩⟩
theorem N.ret0 {m : Nat} {ro : Option Nat} {fn : Func} {R : Ending → World → Prop} (hr : fn.results = #[]) (h : ∀ w, St w0 H0 H L w → R (.returned (.tuple #[])) w) : N ⟨m, [], ro⟩ w0 H0 (bodyPost P fn R) .ret env H L :=
  ⟨fun _ w hf hs => ⟨hf.defers, .tuple #[], by rw [results_eq, hr]; simp, h w hs⟩⟩
end
end Go.Proofs.YthabgdbhgcgemaaGreatDoor
namespace Go.Proofs.YthabgdbhgcgemaaGreatDoor
set_option linter.unusedVariables false
set_option linter.unusedSimpArgs false
open Go Go.RowKit
structure KZ where
  k : Act → World → Prop
  z : List PanicEntry → Act → World → Prop
section
variable {P : Program} {ops : Array Oper} {K : KZ} {S : Nat → World → Prop}
def Norm (K : KZ) : Exit → Act → World → Prop := fun e a w => (e = .normal ∧ K.k a w) ∨ ∃ ch, e = .panic ch ∧ ∀ t : Array Value, t.size = a.tmps.size → K.z ch { a with tmps := t } w
theorem Norm.put {K : KZ} {ch : List PanicEntry} {a : Act} {w : World} {d : Option Tmp} {v : Value} (h : Norm K (.panic ch) (a.put d v) w) : Norm K (.panic ch) a w := by
  rcases h with ⟨h, _⟩ | ⟨c, h1, h2⟩
  · cases h
  · refine .inr ⟨c, h1, fun t ht => ?_⟩
    have h3 := h2 t
    cases d with
    | none => exact h3 ht
    | some d => exact h3 (by simpa [Act.put] using ht)
def KZ.of (Q : Exit → Act → World → Prop) : KZ := ⟨fun a w => Q .normal a w, fun ch a w => Q (.panic ch) a w⟩
theorem Norm.of {Q : Exit → Act → World → Prop} {e : Exit} {a : Act} {w : World} (h : Norm (KZ.of Q) e a w) : Q e a w := by
  rcases h with ⟨rfl, h⟩ | ⟨c, rfl, h⟩
  · exact h
  · exact h a.tmps rfl
theorem Norm.lets {K : KZ} : ¬ LetsOut (Norm K) := fun ⟨_, _, h⟩ => by
  rcases h with ⟨h, _⟩ | ⟨_, h, _⟩ <;> cases h
def anc (ops : Array Oper) : Nat → Nat → Nat → Bool
  | 0, _, _ => false
  | fuel + 1, k, i =>
    match ops[k]? with
    | none => false
    | some o => o.after.toList.any fun e => Region.binds .any e && (Nat.beq e.on i || anc ops fuel e.on i)
def Closed (ops : Array Oper) (listed : Array Bool) : Prop :=
  ∀ k o, listed.getD k false = true → ops[k]? = some o → ∀ e ∈ o.after, Region.binds .any e = true → listed.getD e.on false = true
theorem closed_none (ops : Array Oper) (n : Nat) : Closed ops (Array.replicate n false) := fun k o h => by
  simp [Array.getElem?_replicate] at h
  split at h <;> simp at h
theorem closed_set {listed : Array Bool} (h : Closed ops listed) {k : Nat} (hk : k ∈ Region.ready .any ops listed) : Closed ops (listed.setIfInBounds k true) := by
  intro j o hj ho e he hb
  by_cases hjk : k = j
  · subst hjk
    obtain ⟨_, o', ho', hall⟩ := mem_ready.1 hk
    rw [ho'] at ho
    cases ho
    exact getD_set_true (hall e he hb)
  · rw [getD_set_ne false hjk] at hj
    exact getD_set_true (h j o hj ho e he hb)
theorem anc_listed {listed : Array Bool} (h : Closed ops listed) : ∀ (fuel k i : Nat), (∀ o, ops[k]? = some o → ∀ e ∈ o.after, Region.binds .any e = true → listed.getD e.on false = true) → anc ops fuel k i = true → listed.getD i false = true
  | 0, _, _, _, h => by simp [anc] at h
  | fuel + 1, k, i, hk, ha => by
    unfold anc at ha
    cases ho : ops[k]? with
    | none => rw [ho] at ha; simp at ha
    | some o =>
      rw [ho] at ha
      simp only [List.any_eq_true, Bool.and_eq_true, Bool.or_eq_true] at ha
      obtain ⟨e, he, hb, hh⟩ := ha
      have he' : e ∈ o.after := by simpa using he
      have hl := hk o ho e he' hb
      rcases hh with hh | hh
      · rw [Nat.eq_of_beq_eq_true hh] at hl; exact hl
      · exact anc_listed h fuel e.on i (fun o' ho' e' he'' hb' => h e.on o' hl ho' e' he'' hb') hh
def Quiet (P : Program) (ops : Array Oper) (Sw : World → Prop) (o : Oper) (v : Value) (a : Act) : Prop :=
  (Region.wanted o (yielded ops a.tmps) = true ∧ ∀ w, Sw w → o.quietAt P a (fun w' => Below w.heap.size w w') w v) ∨
  (Region.wanted o (yielded ops a.tmps) = false ∧ v = undef)
theorem Quiet.of_same {Sw : World → Prop} {o : Oper} {v : Value} {a a' : Act} (hy : Quiet P ops Sw o v a) (he : execOp a'.eval o = execOp a.eval o)
    (hw : Region.wanted o (yielded ops a'.tmps) = Region.wanted o (yielded ops a.tmps)) : Quiet P ops Sw o v a' := by
  unfold Quiet Oper.quietAt at *
  rw [he, hw]
  exact hy
theorem Quiet.wpOp {i : Nat} {o : Oper} {v : Value} {a : Act} {Sw : World → Prop} (hi : ops[i]? = some o) (hy : Quiet P ops Sw o v a)
    {K' : Act → World → Prop} {Q : Exit → Act → World → Prop} {w : World} (hS : Sw w) (h : ∀ w', Below w.heap.size w w' → K' (a.put o.dst v) w') : wpOp P ops Q i K' a w := by
  unfold Go.wpOp
  simp only [hi]
  rcases hy with ⟨hw, hv⟩ | ⟨hw, rfl⟩
  · rw [hw, if_pos rfl]
    refine .inl ?_
    have h3 := hv w hS
    unfold Oper.quietAt at h3
    unfold Oper.wp
    generalize (execOp a.eval o).run P w = r at *
    cases r with
    | ok n w' =>
      cases n <;> simp only [Oper.quietUpon] at h3 <;> simp only [Oper.upon]
      case value u =>
        obtain ⟨e1, e2⟩ := h3
        rw [e1, e2]
        exact h _ (Below.refl _ _)
      case skip =>
        obtain ⟨e1, e2⟩ := h3
        rw [e1, ← e2]
        exact h _ (Below.refl _ _)
      case enter f args =>
        obtain ⟨e1, hc⟩ := h3
        rw [e1]
        exact hc.mono fun e w'' ⟨he, hw''⟩ => by subst he; exact h _ hw''
    | halt x w' => simp only [Oper.quietUpon] at h3
  · rw [hw, if_neg (by simp)]
    exact h _ (Below.refl _ _)
theorem wpOp_putQ {j : Nat} {oi oj : Oper} {v : Value} {Sw : World → Prop} (hj : ops[j]? = some oj) (hap : oi.apart ops oj = true)
    (hsi : ∀ cs b, oi.op ≠ .select cs b) (hsj : ∀ cs b, oj.op ≠ .select cs b) {K' : Act → World → Prop} {a : Act} {w : World}
    (hy : Quiet P ops Sw oi v a) (h : wpOp P ops (Norm K) j K' (a.put oi.dst v) w) :
    wpOp P ops (Norm K) j (fun a' w' => Quiet P ops Sw oi v a' ∧ K' (a'.put oi.dst v) w') a w := by
  obtain ⟨h1, h2, h3⟩ := Oper.apart_spec hap
  have keep : ∀ (a : Act), Quiet P ops Sw oi v a → ∀ u, Quiet P ops Sw oi v (a.put oj.dst u) := fun a hy u =>
    hy.of_same (execOp_put oi hsi a oj.dst u h3) (wanted_put oi a oj.dst u h3)
  have keepD : ∀ d, Quiet P ops Sw oi v { a with defers := d :: a.defers } := fun d => hy.of_same rfl rfl
  unfold wpOp at *
  simp only [hj] at *
  rw [wanted_put oj a oi.dst v h1] at h
  split
  · rename_i hw
    simp only [hw, if_true] at h
    rcases h with h | ⟨_, hlets⟩
    case inr => exact absurd hlets Norm.lets
    refine .inl ?_
    unfold Oper.wp at *
    rw [execOp_put oj hsj a oi.dst v h1] at h
    generalize (execOp a.eval oj).run P w = r at *
    cases r with
    | ok n w' =>
      cases n <;> simp only [Oper.upon] at h ⊢
      case value u => exact ⟨keep a hy u, by rw [← Act.put_comm a v u h2]; exact h⟩
      case skip => exact ⟨keep a hy _, by rw [← Act.put_comm a v undef h2]; exact h⟩
      case defer d =>
        refine ⟨keep _ (keepD d) _, ?_⟩
        rw [← Act.put_comm _ v undef h2, ← Act.put_defers]
        exact h
      case enter f args =>
        refine Calls.mono h fun e w'' he => ?_
        cases e with
        | returned u => exact ⟨keep a hy u, by rw [← Act.put_comm a v u h2]; exact he⟩
        | panicked c => exact Norm.put he
        | outgrown => exact he
      case row row args => exact Rows.mono h fun u w'' he => ⟨keep a hy u, by rw [← Act.put_comm a v u h2]; exact he⟩
    | halt x w' =>
      cases x <;> simp only [Oper.upon] at h ⊢
      case panic u => exact Norm.put h
  · rename_i hw
    simp only [hw] at h
    exact ⟨keep a hy _, by rw [← Act.put_comm a v undef h2]; exact h⟩
def G (P : Program) (ops : Array Oper) (K : KZ) (S : Nat → World → Prop) : Nat → Array Bool → Act → World → Prop
  | 0, listed, a, w => ∀ w', Below w.heap.size w w' → Region.ready .any ops listed = [] ∧ K.k a w'
  | fuel + 1, listed, a, w => ∀ w', Below w.heap.size w w' →
    (Region.ready .any ops listed = [] → K.k a w') ∧
    ∀ k ∈ Region.ready .any ops listed, wpOp P ops (Norm K) k (fun a' w'' => (∀ i, listed.getD i false = true → anc ops ops.size k i = false → S i w' → S i w'') ∧ G P ops K S fuel (listed.setIfInBounds k true) a' w'') a w'
theorem Below.step {a b c : World} (h : Below a.heap.size a b) (k : Below b.heap.size b c) : Below a.heap.size a c := h.trans (k.mono h.size)
theorem G.grow : ∀ {fuel : Nat} {listed : Array Bool} {a : Act} {w w' : World}, G P ops K S fuel listed a w → Below w.heap.size w w' → G P ops K S fuel listed a w'
  | 0, _, _, _, _, h, hb => fun w'' hb' => h w'' (Below.step hb hb')
  | _ + 1, _, _, _, _, h, hb => fun w'' hb' => h w'' (Below.step hb hb')
theorem G.any : ∀ {fuel : Nat} {listed : Array Bool} {a : Act} {w : World}, G P ops K S fuel listed a w → wpAny P .any ops (Norm K) fuel listed a w
  | 0, _, _, w, h => ⟨(h w (Below.refl _ _)).1, .inl ⟨rfl, (h w (Below.refl _ _)).2⟩⟩
  | _ + 1, _, _, w, h => ⟨fun h0 => .inl ⟨rfl, (h w (Below.refl _ _)).1 h0⟩, fun i hi => wpOp_mono (fun _ _ h' => h'.2.any) ((h w (Below.refl _ _)).2 i hi)⟩
theorem G.first (hst : ∀ i w w', S i w → Below w.heap.size w w' → S i w') {i : Nat} {oi : Oper} {v : Value} (hi : ops[i]? = some oi) (hsel : ∀ (j : Nat) (o : Oper) cs b, ops[j]? = some o → o.op ≠ .select cs b) :
    ∀ (fuel : Nat) (listed : Array Bool) (a : Act) (w : World), Closed ops listed →
      (∀ j oj, ops[j]? = some oj → j ≠ i → listed.getD j true = false → (∀ e ∈ oj.after, Region.binds .any e = true → e.on ≠ i) → oi.apart ops oj = true) →
      i ∈ Region.ready .any ops listed → Quiet P ops (S i) oi v a → S i w →
      G P ops K S fuel (listed.setIfInBounds i true) (a.put oi.dst v) w → G P ops K S (fuel + 1) listed a w := by
  intro fuel
  induction fuel with
  | zero =>
    intro listed a w hcl _ hr hy hS H w' hb
    refine ⟨fun h => (by rw [h] at hr; cases hr), fun j hj => ?_⟩
    by_cases hji : j = i
    · subst hji
      exact hy.wpOp hi (hst _ _ _ hS hb) fun w'' hb' => ⟨fun i' _ _ hs => hst _ _ _ hs hb', H.grow (Below.step hb hb')⟩
    · have := ready_mono hj hji
      rw [(H w' hb).1] at this
      cases this
  | succ fuel ih =>
    intro listed a w hcl hfree hr hy hS H w' hb
    refine ⟨fun h => (by rw [h] at hr; cases hr), fun j hj => ?_⟩
    by_cases hji : j = i
    · subst hji
      exact hy.wpOp hi (hst _ _ _ hS hb) fun w'' hb' => ⟨fun i' _ _ hs => hst _ _ _ hs hb', H.grow (Below.step hb hb')⟩
    · have h1 := (H w' hb).2 j (ready_mono hj hji)
      obtain ⟨hjun, oj, hoj, hall⟩ := mem_ready.1 hj
      have hli : listed.getD i true = false := (mem_ready.1 hr).1
      have hnot : ∀ e ∈ oj.after, Region.binds .any e = true → e.on ≠ i := fun e he hb heq => by
        have h1 := hall e he hb
        rw [heq] at h1
        rcases Nat.lt_or_ge i listed.size with h' | h'
        · simp [h'] at hli h1; rw [hli] at h1; cases h1
        · simp [Array.getElem?_eq_none h'] at h1
      have hlt : i < listed.size := by
        rcases Nat.lt_or_ge i listed.size with h' | h'
        · exact h'
        · simp [Array.getElem?_eq_none h'] at hli
      have hanc : anc ops ops.size j i = false := by
        cases ha : anc ops ops.size j i with
        | false => rfl
        | true =>
          have := anc_listed hcl ops.size j i (fun o ho e he hb => by rw [hoj] at ho; cases ho; exact hall e he hb) ha
          simp [hlt] at hli this
          rw [hli] at this; cases this
      have h2 := wpOp_putQ hoj (hfree j oj hoj hji hjun hnot) (fun cs b => hsel i oi cs b hi) (fun cs b => hsel j oj cs b hoj) hy h1
      have hfree' : ∀ k ok, ops[k]? = some ok → k ≠ i → (listed.setIfInBounds j true).getD k true = false →
          (∀ e ∈ ok.after, Region.binds .any e = true → e.on ≠ i) → oi.apart ops ok = true := fun k ok hk hki hun hno => by
        refine hfree k ok hk hki ?_ hno
        by_cases hjk : j = k
        · subst hjk; exact hjun
        · rw [getD_set_ne true hjk] at hun; exact hun
      refine wpOp_mono (fun a' w'' h3 => ⟨fun i' hl ha hs => ?_, ?_⟩) h2
      · exact h3.2.1 i' (getD_set_true hl) ha hs
      · refine ih (listed.setIfInBounds j true) a' w'' (closed_set hcl hj) hfree' (ready_mono hr (Ne.symm hji)) h3.1 (h3.2.1 i ?_ hanc (hst _ _ _ hS hb)) ?_
        · simp [hlt]
        · rw [Array.setIfInBounds_comm _ _ hji]
          exact h3.2.2
end
section
variable {P : Program} {n : FK} {w0 : World} {H0 H HS : Hp} {Q : Exit → Act → World → Prop} {env : List (Nat × Value)} {L LS : List Loc} {ops : List Oper} {K : KZ} {k : Nat} {ex : List Nat} {fuel : Nat} {ok : Bool}
def mqAt (ops : List Oper) (i : Nat) : Bool :=
  match ops[i]? with
  | some ⟨_, .load _ _, _, _, _, _⟩ | some ⟨_, .lookup _ _ _ _, _, _, _, _⟩ | some ⟨_, .call { callee := .value _, args := _, argTypes := _ }, _, _, _, _⟩ => true
  | _ => false
def marks (n k : Nat) (ex : List Nat) : Array Bool := ((List.range n).map fun i => Nat.blt i k || ex.any (Nat.beq i)).toArray
theorem marks_size (n k : Nat) (ex : List Nat) : (marks n k ex).size = n := by simp [marks]
theorem marks_get (n k : Nat) (ex : List Nat) (i : Nat) : (marks n k ex)[i]? = if i < n then some (Nat.blt i k || ex.any (Nat.beq i)) else none := by
  simp only [marks, List.getElem?_toArray, List.getElem?_map]
  by_cases h : i < n
  · rw [List.getElem?_range h]; simp [h]
  · rw [List.getElem?_eq_none (by simpa using h)]; simp [h]
theorem marks_none (n : Nat) : Array.replicate n false = marks n 0 [] := by
  apply Array.ext_getElem?
  intro i
  rw [marks_get, Array.getElem?_replicate]
  simp [Nat.blt, Nat.ble]
theorem marks_next (n k : Nat) (ex : List Nat) : (marks n k ex).setIfInBounds k true = marks n (k + 1) ex := by
  apply Array.ext_getElem?
  intro i
  rw [Array.getElem?_setIfInBounds, marks_get, marks_get, marks_size]
  by_cases h : k = i
  · subst h
    simp only [if_true]
    by_cases hn : k < n
    · simp [hn, Nat.blt]
    · simp [hn]
  · rw [if_neg h]
    by_cases hn : i < n
    · simp only [hn, if_true, Option.some.injEq]
      have : Nat.blt i k = Nat.blt i (k + 1) := by
        rw [Bool.eq_iff_iff, Nat.blt_eq, Nat.blt_eq]; omega
      rw [this]
    · simp [hn]
theorem marks_more (n k j : Nat) (ex : List Nat) : (marks n k ex).setIfInBounds j true = marks n k (j :: ex) := by
  apply Array.ext_getElem?
  intro i
  rw [Array.getElem?_setIfInBounds, marks_get, marks_get, marks_size]
  by_cases h : j = i
  · subst h
    simp only [if_true]
    by_cases hn : j < n
    · simp [hn]
    · simp [hn]
  · rw [if_neg h]
    by_cases hn : i < n
    · simp only [hn, if_true, Option.some.injEq, List.any_cons]
      rw [beq_no (s := i) (t := j) (fun e => h e.symm)]
      simp
    · simp [hn]
theorem marks_has (n k : Nat) (ex : List Nat) (h : ex.any (Nat.beq k) = true) : marks n k ex = marks n (k + 1) ex := by
  apply Array.ext_getElem?
  intro i
  rw [marks_get, marks_get]
  by_cases hn : i < n
  · simp only [hn, if_true, Option.some.injEq]
    by_cases hk : i = k
    · subst hk; rw [h]; simp
    · have : Nat.blt i k = Nat.blt i (k + 1) := by
        rw [Bool.eq_iff_iff, Nat.blt_eq, Nat.blt_eq]; omega
      rw [this]
  · simp [hn]
def SS (w0 : World) (H0 HS : Hp) (LS : List Loc) (ops : List Oper) (i : Nat) (w : World) : Prop := mqAt ops i = true → St w0 H0 HS LS w
theorem SS.grow : ∀ i w w', SS w0 H0 HS LS ops i w → Below w.heap.size w w' → SS w0 H0 HS LS ops i w' := fun _ _ _ h hb hm => (h hm).grow hb
theorem wpOp_bridge {r : Option Nat} {P : Program} {ops : Array Oper} {Q : Exit → Act → World → Prop} (hn : ∀ o ∈ ops, nd o = true) (hl : ¬ LetsOut Q) {i : Nat} {K K' : Act → World → Prop} (hK : ∀ a w, K a w → K' a w) {a : Act} {w : World} (h : wpOp P ops Q i K a w) : wpOpIn (FW r) 0 P ops Q i K' a w := by
  unfold wpOp at h
  unfold wpOpIn
  cases hi : ops[i]? with
  | none => rw [hi] at h; exact hK _ _ h
  | some o =>
    rw [hi] at h
    simp only at h ⊢
    split
    · rename_i hw
      rw [if_pos hw] at h
      rcases h with h | ⟨_, hlets⟩
      · exact Oper.wpIn_mono hK (bridge (hn o (Array.mem_of_getElem? hi)) h)
      · exact absurd hlets hl
    · rename_i hw
      rw [if_neg hw] at h
      exact ⟨fun _ _ => trivial, hK _ _ h⟩
theorem any_bridge {r : Option Nat} {P : Program} {ops : Array Oper} {K : KZ} (hn : ∀ o ∈ ops, nd o = true) : ∀ {fuel : Nat} {listed : Array Bool} {a : Act} {w : World}, wpAny P .any ops (Norm K) fuel listed a w → wpAnyIn (FW r) 0 P .any ops (Norm K) fuel listed a w
  | 0, _, _, _, h => h
  | _ + 1, _, _, _, h => ⟨h.1, fun i hi => wpOp_bridge hn Norm.lets (fun _ _ h => any_bridge hn h) (h.2 i hi)⟩
structure GT (P : Program) (n : FK) (w0 : World) (H0 : Hp) (ops : List Oper) (K : KZ) (HS : Hp) (LS : List Loc) (ok : Bool) (fuel : Nat) (k : Nat) (ex : List Nat) (env : List (Nat × Value)) (H : Hp) (L : List Loc) : Prop where
  out : Closed ops.toArray (marks ops.length k ex) → ∀ a w, Fr n env a → St w0 H0 H L w → (ok = true → St w0 H0 HS LS w) → G P ops.toArray K (SS w0 H0 HS LS ops) fuel (marks ops.length k ex) a w
theorem T.regionD {id : Nat} (hm : P.follows .mixedOrders = true) (hnd : ops.all nd = true) (h : GT P n w0 H0 ops (KZ.of Q) H L true ops.length 0 [] env H L) : T P n w0 H0 (.region id ops.toArray true) Q env H L :=
  ⟨fun a w hf hs => by
    have hd : St w0 H0 H L { w with drawn := w.drawn + 1 } := hs.drew
    have h1 := (h.out (by rw [← marks_none]; exact closed_none _ _) a _ hf hd (fun _ => hd)).any
    rw [← marks_none] at h1
    refine wpIn_mono (wpIn_region_any (Q := Norm (KZ.of Q)) hm (any_bridge (by simpa using hnd) (by simpa using h1))) fun e a' w' hh => hh.of⟩
def chk (ops : List Oper) (k : Nat) (ex : List Nat) : Bool := (Region.ready .any ops.toArray (marks ops.length k ex)).contains k && Region.free .any ops.toArray (marks ops.length k ex) k && Region.noSelect ops.toArray
theorem GT.first {d : Nat} {op : Op} {ty : TypeId} {pos : String} {after : Array Edge} {g : Option (Nat × Bool)} {v : Value} (hi : ops[k]? = some ⟨some d, op, ty, pos, after, g⟩) (hn : Nat.blt d n.n = true)
    (hq : ∀ a, Fr n env a → Quiet P ops.toArray (SS w0 H0 HS LS ops k) ⟨some d, op, ty, pos, after, g⟩ v a) (hS : ∀ w, St w0 H0 H L w → (ok = true → St w0 H0 HS LS w) → SS w0 H0 HS LS ops k w) (hc : chk ops k ex = true)
    (h : GT P n w0 H0 ops K HS LS ok fuel (k + 1) ex ((d, v) :: env) H L) : GT P n w0 H0 ops K HS LS ok (fuel + 1) k ex env H L :=
  ⟨fun hcl a w hf hs hk => by
    simp only [chk, Bool.and_eq_true] at hc
    obtain ⟨⟨h1, h2⟩, h3⟩ := hc
    have hi' : ops.toArray[k]? = some ⟨some d, op, ty, pos, after, g⟩ := by simpa using hi
    have hr : k ∈ Region.ready .any ops.toArray (marks ops.length k ex) := by simpa using h1
    refine G.first SS.grow hi' (Region.noSelect_spec h3) fuel _ a w hcl (Region.free_spec hi' h2) hr (hq a hf) (hS w hs hk) ?_
    have hcl' := closed_set hcl hr
    rw [marks_next] at hcl' ⊢
    exact h.out hcl' _ _ (hf.put hn v) hs hk⟩
theorem GT.pure {d : Nat} {op : Op} {ty : TypeId} {pos : String} {after : Array Edge} {g : Option (Nat × Bool)} {v : Value} (hi : ops[k]? = some ⟨some d, op, ty, pos, after, g⟩) (hm : mqAt ops k = false) (hn : Nat.blt d n.n = true)
    (hw : want ops env ⟨some d, op, ty, pos, after, g⟩ = some true) (hv : V P n (fun _ => True) env op v) (hc : chk ops k ex = true)
    (h : GT P n w0 H0 ops K HS LS ok fuel (k + 1) ex ((d, v) :: env) H L) : GT P n w0 H0 ops K HS LS ok (fuel + 1) k ex env H L :=
  GT.first hi hn (fun a hf => .inl ⟨want_spec hf hw, fun w _ => by unfold Oper.quietAt; rw [hv.out _ a w rfl hf trivial]; exact ⟨rfl, rfl⟩⟩) (fun w _ _ hh => by rw [hm] at hh; cases hh) hc h
theorem GT.read {d : Nat} {op : Op} {ty : TypeId} {pos : String} {after : Array Edge} {g : Option (Nat × Bool)} {v : Value} (hi : ops[k]? = some ⟨some d, op, ty, pos, after, g⟩) (hm : mqAt ops k = true) (hn : Nat.blt d n.n = true)
    (hw : want ops env ⟨some d, op, ty, pos, after, g⟩ = some true) (hv : V P n (St w0 H0 HS LS) env op v) (hc : chk ops k ex = true)
    (h : GT P n w0 H0 ops K HS LS true fuel (k + 1) ex ((d, v) :: env) H L) : GT P n w0 H0 ops K HS LS true (fuel + 1) k ex env H L :=
  GT.first hi hn (fun a hf => .inl ⟨want_spec hf hw, fun w hs => by unfold Oper.quietAt; rw [hv.out _ a w rfl hf (hs hm)]; exact ⟨rfl, rfl⟩⟩) (fun w _ hh _ => hh rfl) hc h
theorem GT.skip {d : Nat} {op : Op} {ty : TypeId} {pos : String} {after : Array Edge} {g : Option (Nat × Bool)} (hi : ops[k]? = some ⟨some d, op, ty, pos, after, g⟩) (hn : Nat.blt d n.n = true)
    (hw : want ops env ⟨some d, op, ty, pos, after, g⟩ = some false) (hc : chk ops k ex = true)
    (h : GT P n w0 H0 ops K HS LS true fuel (k + 1) ex ((d, undef) :: env) H L) : GT P n w0 H0 ops K HS LS true (fuel + 1) k ex env H L :=
  GT.first hi hn (fun a hf => .inr ⟨want_spec hf hw, rfl⟩) (fun w _ hh _ => hh rfl) hc h
theorem GT.call {d : Nat} {x : Operand} {args : Array Operand} {tys : Array TypeId} {ty : TypeId} {pos : String} {after : Array Edge} {g : Option (Nat × Bool)} {f : FuncId} {first cap : Array Value} {vs : List Value} {v : Value}
    (hi : ops[k]? = some ⟨some d, .call { callee := .value x, args := args, argTypes := tys }, ty, pos, after, g⟩) (hm : mqAt ops k = true) (hn : Nat.blt d n.n = true)
    (hw : want ops env ⟨some d, .call { callee := .value x, args := args, argTypes := tys }, ty, pos, after, g⟩ = some true) (hx : ev env x = some (.func (.func f) first cap)) (hargs : evs env args.toList = some vs)
    (hcall : ∀ (args : Array Value) (w : World), (callFunc f args).run P w = .ok (.enter f args) w)
    (hcc : ∀ w, St w0 H0 HS LS w → Calls P f (first ++ vs.toArray ++ cap) w (Ret w v)) (hc : chk ops k ex = true)
    (h : GT P n w0 H0 ops K HS LS true fuel (k + 1) ex ((d, v) :: env) H L) : GT P n w0 H0 ops K HS LS true (fuel + 1) k ex env H L :=
  GT.first hi hn (fun a hf => .inl ⟨want_spec hf hw, fun w hs => by
    unfold Oper.quietAt
    rw [run_call rfl (hf.ev hx) (hf.evs hargs) hcall]
    exact ⟨rfl, hcc w (hs hm)⟩⟩) (fun w _ hh _ => hh rfl) hc h
theorem GT.call0 {f : FuncId} (hcall : ∀ (args : Array Value) (w : World), (callFunc f args).run P w = .ok (.enter f args) w) {d : Nat} {args : Array Operand} {tys : Array TypeId} {ty : TypeId} {pos : String} {after : Array Edge} {g : Option (Nat × Bool)} {vs : List Value} {v : Value}
    (hi : ops[k]? = some ⟨some d, .call { callee := .value (.func f), args := args, argTypes := tys }, ty, pos, after, g⟩) (hm : mqAt ops k = true) (hn : Nat.blt d n.n = true)
    (hw : want ops env ⟨some d, .call { callee := .value (.func f), args := args, argTypes := tys }, ty, pos, after, g⟩ = some true) (hargs : evs env args.toList = some vs)
    (hcc : ∀ w, St w0 H0 HS LS w → Calls P f vs.toArray w (Ret w v)) (hc : chk ops k ex = true)
    (h : GT P n w0 H0 ops K HS LS true fuel (k + 1) ex ((d, v) :: env) H L) : GT P n w0 H0 ops K HS LS true (fuel + 1) k ex env H L :=
  GT.call hi hm hn hw (by rfl) hargs hcall (fun w hs => by simpa using hcc w hs) hc h
theorem GT.part (s : Nat) {e : Bool} (hx : look s env = some (.bool e)) (ht : e = true → GT P n w0 H0 ops K HS LS ok fuel k ex ((s, .bool true) :: env) H L) (hf : e = false → GT P n w0 H0 ops K HS LS ok fuel k ex ((s, .bool false) :: env) H L) : GT P n w0 H0 ops K HS LS ok fuel k ex env H L := by
  refine ⟨fun hcl a w hfr hs hk => ?_⟩
  have key : ∀ b, e = b → Fr n ((s, .bool b) :: env) a := by
    rintro b rfl
    refine ⟨hfr.defers, hfr.size, fun t v hv => ?_⟩
    simp only [look] at hv
    by_cases he : s = t
    · subst he
      simp at hv
      subst hv
      exact hfr.vals _ _ hx
    · rw [beq_no he] at hv
      exact hfr.vals t v hv
  cases he : e with
  | true => exact (ht he).out hcl a w (key _ he) hs hk
  | false => exact (hf he).out hcl a w (key _ he) hs hk
theorem GT.guard {o : Oper} {j d : Nat} {b : Bool} {op : Op} {ty : TypeId} {pos : String} {after : Array Edge} {g : Option (Nat × Bool)} {e : Bool} {p q : Prop} (_hi : ops[k]? = some o) (_hg : o.guard = some (j, b)) (_hj : ops[j]? = some ⟨some d, op, ty, pos, after, g⟩) (hx : look d env = some (.bool e)) (hd : Is e p q)
    (ht : p → GT P n w0 H0 ops K HS LS ok fuel k ex ((d, .bool true) :: env) H L) (hf : q → GT P n w0 H0 ops K HS LS ok fuel k ex ((d, .bool false) :: env) H L) : GT P n w0 H0 ops K HS LS ok fuel k ex env H L :=
  GT.part d hx (fun h => ht (hd.yes h)) (fun h => hf (hd.no h))
theorem GT.done' (hr : Region.ready .any ops.toArray (marks ops.length k ex) = []) (h : N n w0 H0 (fun e a w => e = .normal → K.k a w) .normal env H L) : GT P n w0 H0 ops K HS LS ok fuel k ex env H L := by
  refine ⟨fun _ a w hf hs _ => ?_⟩
  cases fuel with
  | zero => exact fun w' hb => ⟨hr, h.out _ _ hf (hs.grow hb) rfl⟩
  | succ fuel => exact fun w' hb => ⟨fun _ => h.out _ _ hf (hs.grow hb) rfl, by rw [hr]; simp⟩
theorem N.ofQ {Q : Exit → Act → World → Prop} (h : N n w0 H0 Q .normal env H L) : N n w0 H0 (fun e a w => e = .normal → (KZ.of Q).k a w) .normal env H L := ⟨fun a w hf hs _ => h.out a w hf hs⟩
structure GS (P : Program) (n : FK) (w0 : World) (H0 : Hp) (ops : List Oper) (K : KZ) (HS : Hp) (LS : List Loc) (ok : Bool) (fuel : Nat) (k : Nat) (ex : List Nat) (env : List (Nat × Value)) (H : Hp) (L : List Loc) (j : Nat) : Prop where
  out : Closed ops.toArray (marks ops.length k (j :: ex)) → ∀ a w, Fr n env a → St w0 H0 H L w → (ok = true → St w0 H0 HS LS w) → wpOp P ops.toArray (Norm K) j (fun a' w'' => (∀ i, (marks ops.length k ex).getD i false = true → anc ops.toArray ops.toArray.size j i = false → SS w0 H0 HS LS ops i w → SS w0 H0 HS LS ops i w'') ∧ G P ops.toArray K (SS w0 H0 HS LS ops) fuel (marks ops.length k (j :: ex)) a' w'') a w
def AllS (F : Nat → Prop) : List Nat → Prop
  | [] => True
  | k :: r => F k ∧ AllS F r
theorem allS_mem {F : Nat → Prop} : ∀ {l : List Nat}, AllS F l → ∀ k ∈ l, F k
  | _ :: _, h, k, hk => by
    rcases List.mem_cons.1 hk with rfl | hk
    · exact h.1
    · exact allS_mem h.2 k hk
theorem GT.fork (rs : List Nat) (hr : Region.ready .any ops.toArray (marks ops.length k ex) = rs) (hne : rs.isEmpty = false) (h : AllS (GS P n w0 H0 ops K HS LS ok fuel k ex env H L) rs) : GT P n w0 H0 ops K HS LS ok (fuel + 1) k ex env H L :=
  ⟨fun hcl a w hf hs hk w' hb => ⟨fun h0 => (by rw [h0] at hr; subst hr; cases hne), fun j hj => by
    have hcl' := closed_set hcl hj
    rw [marks_more] at hcl' ⊢
    exact (allS_mem h j (hr ▸ hj)).out hcl' a w' hf (hs.grow hb) (fun h' => (hk h').grow hb)⟩⟩
def readyB (ops : List Oper) (k : Nat) (ex rs : List Nat) : Bool := Region.ready .any ops.toArray (marks ops.length k ex) == rs
theorem GT.fork1 (hr : readyB ops k ex [k] = true) (h : GS P n w0 H0 ops K HS LS ok fuel k ex env H L k) : GT P n w0 H0 ops K HS LS ok (fuel + 1) k ex env H L :=
  GT.fork [k] (by simpa [readyB] using hr) rfl ⟨h, trivial⟩
theorem GT.fork2 (j : Nat) (hr : readyB ops k ex [k, j] = true) (h : GS P n w0 H0 ops K HS LS ok fuel k ex env H L k) (h' : GS P n w0 H0 ops K HS LS ok fuel k ex env H L j) : GT P n w0 H0 ops K HS LS ok (fuel + 1) k ex env H L :=
  GT.fork [k, j] (by simpa [readyB] using hr) rfl ⟨h, h', trivial⟩
theorem GT.done (hr : readyB ops k ex [] = true) (h : N n w0 H0 (fun e a w => e = .normal → K.k a w) .normal env H L) : GT P n w0 H0 ops K HS LS ok fuel k ex env H L :=
  GT.done' (by simpa [readyB] using hr) h
theorem GT.adv (h : ex.any (Nat.beq k) = true) (hh : GT P n w0 H0 ops K HS LS ok fuel (k + 1) ex env H L) : GT P n w0 H0 ops K HS LS ok fuel k ex env H L :=
  ⟨fun hcl a w hf hs hk => by
    rw [marks_has _ _ _ h] at hcl ⊢
    exact hh.out hcl a w hf hs hk⟩
theorem GS.grow {j : Nat} {o : Oper} {G' : Type} {φ : G' → Prop} {E : G' → List (Nat × Value)} {HH : G' → Hp} {LL : G' → List Loc} (hi : ops[j]? = some o) (hw : want ops env o = some true) (hx : X P n w0 H0 env H L o true φ E HH LL)
    (h : ∀ g, φ g → GT P n w0 H0 ops K HS LS ok fuel k (j :: ex) (E g) (HH g) (LL g)) : GS P n w0 H0 ops K HS LS ok fuel k ex env H L j :=
  ⟨fun hcl a w hf hs hk => by
    unfold wpOp
    have hi' : ops.toArray[j]? = some o := by simpa using hi
    simp only [hi']
    rw [want_spec hf hw, if_pos rfl]
    exact .inl (hx.out a w hf hs _ _ fun g a' w' hg hb hf' hs' => ⟨fun i _ _ hh => SS.grow i w w' hh (hb rfl), (h g hg).out hcl a' w' hf' hs' fun h' => (hk h').grow (hb rfl)⟩)⟩
def allPure (ops : List Oper) (k : Nat) (ex : List Nat) (j : Nat) : Bool := (List.range ops.length).all fun i => !(marks ops.length k ex).getD i false || anc ops.toArray ops.toArray.size j i || !mqAt ops i
theorem GS.eff {j : Nat} {o : Oper} {gr : Bool} {G' : Type} {φ : G' → Prop} {E : G' → List (Nat × Value)} {HH : G' → Hp} {LL : G' → List Loc} (hi : ops[j]? = some o) (hp : allPure ops k ex j = true) (hw : want ops env o = some true) (hx : X P n w0 H0 env H L o gr φ E HH LL)
    (h : ∀ g, φ g → GT P n w0 H0 ops K HS LS false fuel k (j :: ex) (E g) (HH g) (LL g)) : GS P n w0 H0 ops K HS LS ok fuel k ex env H L j :=
  ⟨fun hcl a w hf hs hk => by
    unfold wpOp
    have hi' : ops.toArray[j]? = some o := by simpa using hi
    simp only [hi']
    rw [want_spec hf hw, if_pos rfl]
    refine .inl (hx.out a w hf hs _ _ fun g a' w' hg hb hf' hs' => ⟨fun i hl ha _ hm => ?_, (h g hg).out hcl a' w' hf' hs' fun h' => by cases h'⟩)
    have hlt : i < ops.length := by
      rcases Nat.lt_or_ge i ops.length with h' | h'
      · exact h'
      · rw [Array.getD_eq_getD_getElem?, marks_get, if_neg (by omega)] at hl; simp at hl
    have := List.all_eq_true.1 hp i (List.mem_range.2 hlt)
    rw [hl, ha, hm] at this
    cases this⟩
end
end Go.Proofs.YthabgdbhgcgemaaGreatDoor
namespace Go.Proofs.YthabgdbhgcgemaaGreatDoor
set_option linter.unusedVariables false
set_option linter.unusedSimpArgs false
open Go Go.RowKit
section
variable {P : Program} {n : FK} {w0 : World} {H0 HS H : Hp} {K : KZ} {env : List (Nat × Value)} {LS L : List Loc} {ops : List Oper} {ok : Bool} {fuel k : Nat} {ex : List Nat}
def chkAt (ops : List Oper) (k : Nat) (ex : List Nat) (j : Nat) : Bool := (Region.ready .any ops.toArray (marks ops.length k ex)).contains j && Region.free .any ops.toArray (marks ops.length k ex) j && Region.noSelect ops.toArray
theorem GT.firstAt (j : Nat) {d : Nat} {op : Op} {ty : TypeId} {pos : String} {after : Array Edge} {g : Option (Nat × Bool)} {v : Value} (hi : ops[j]? = some ⟨some d, op, ty, pos, after, g⟩) (hn : Nat.blt d n.n = true)
    (hq : ∀ a, Fr n env a → Quiet P ops.toArray (SS w0 H0 HS LS ops j) ⟨some d, op, ty, pos, after, g⟩ v a) (hS : ∀ w, St w0 H0 H L w → (ok = true → St w0 H0 HS LS w) → SS w0 H0 HS LS ops j w) (hc : chkAt ops k ex j = true)
    (h : GT P n w0 H0 ops K HS LS ok fuel k (j :: ex) ((d, v) :: env) H L) : GT P n w0 H0 ops K HS LS ok (fuel + 1) k ex env H L :=
  ⟨fun hcl a w hf hs hk => by
    simp only [chkAt, Bool.and_eq_true] at hc
    obtain ⟨⟨h1, h2⟩, h3⟩ := hc
    have hi' : ops.toArray[j]? = some ⟨some d, op, ty, pos, after, g⟩ := by simpa using hi
    have hr : j ∈ Region.ready .any ops.toArray (marks ops.length k ex) := by simpa using h1
    refine G.first SS.grow hi' (Region.noSelect_spec h3) fuel _ a w hcl (Region.free_spec hi' h2) hr (hq a hf) (hS w hs hk) ?_
    have hcl' := closed_set hcl hr
    rw [marks_more] at hcl' ⊢
    exact h.out hcl' _ _ (hf.put hn v) hs hk⟩
theorem GT.pureAt (j : Nat) {d : Nat} {op : Op} {ty : TypeId} {pos : String} {after : Array Edge} {g : Option (Nat × Bool)} {v : Value} (hi : ops[j]? = some ⟨some d, op, ty, pos, after, g⟩) (hm : mqAt ops j = false) (hn : Nat.blt d n.n = true)
    (hw : want ops env ⟨some d, op, ty, pos, after, g⟩ = some true) (hv : V P n (fun _ => True) env op v) (hc : chkAt ops k ex j = true)
    (h : GT P n w0 H0 ops K HS LS ok fuel k (j :: ex) ((d, v) :: env) H L) : GT P n w0 H0 ops K HS LS ok (fuel + 1) k ex env H L :=
  GT.firstAt j hi hn (fun a hf => .inl ⟨want_spec hf hw, fun w _ => by unfold Oper.quietAt; rw [hv.out _ a w rfl hf trivial]; exact ⟨rfl, rfl⟩⟩) (fun w _ _ hh => by rw [hm] at hh; cases hh) hc h
theorem GT.readAt (j : Nat) {d : Nat} {op : Op} {ty : TypeId} {pos : String} {after : Array Edge} {g : Option (Nat × Bool)} {v : Value} (hi : ops[j]? = some ⟨some d, op, ty, pos, after, g⟩) (hm : mqAt ops j = true) (hn : Nat.blt d n.n = true)
    (hw : want ops env ⟨some d, op, ty, pos, after, g⟩ = some true) (hv : V P n (St w0 H0 HS LS) env op v) (hc : chkAt ops k ex j = true)
    (h : GT P n w0 H0 ops K HS LS true fuel k (j :: ex) ((d, v) :: env) H L) : GT P n w0 H0 ops K HS LS true (fuel + 1) k ex env H L :=
  GT.firstAt j hi hn (fun a hf => .inl ⟨want_spec hf hw, fun w hs => by unfold Oper.quietAt; rw [hv.out _ a w rfl hf (hs hm)]; exact ⟨rfl, rfl⟩⟩) (fun w _ hh _ => hh rfl) hc h
end
end Go.Proofs.YthabgdbhgcgemaaGreatDoor
namespace Go.Proofs.YthabgdbhgcgemaaGreatDoor
set_option linter.unusedVariables false
set_option linter.unusedSimpArgs false
open Go Go.RowKit
abbrev I64 (x : Int) : Prop := -9223372036854775808 ≤ x ∧ x ≤ 9223372036854775807
class Enc (α : Type) where
  size : Nat
  enc : α → List Value
  good : Hp → α → Prop
  len : ∀ x, (enc x).length = size
  mono : ∀ {H H' : Hp} {x}, H.le H' → good H x → good H' x
  one : ∀ x, (enc x).all (·.oneCell') = true
  pos : 0 < size
open Enc (enc)
structure Slc (α : Type) where
  A : Option Addr
  len : Nat
  cap : Nat
  els : List α
def Slc.b {α : Type} (s : Slc α) : Nat := (s.A.getD ⟨0, 0, none⟩).block
def Slc.o {α : Type} (s : Slc α) : Nat := (s.A.getD ⟨0, 0, none⟩).off
abbrev Slc.v {α : Type} (s : Slc α) : Value := .slice s.A s.len s.cap
structure Slc.Good {α : Type} [Enc α] (s : Slc α) (H : Hp) : Prop where
  len : s.els.length = s.len
  cap : s.len ≤ s.cap
  big : s.cap ≤ 9223372036854775807
  at_ : 0 < s.len → s.A = some ⟨s.b, s.o, none⟩
  cells : ∀ k x, s.els[k]? = some x → H.cells s.b (s.o + k * Enc.size α) (enc x)
  els : ∀ x ∈ s.els, Enc.good H x
section
variable {α : Type} [Enc α] {s : Slc α} {H H' : Hp}
theorem Slc.Good.lim (h : s.Good H) : s.len ≤ 9223372036854775807 := Nat.le_trans h.cap h.big
theorem Slc.Good.mono (h : s.Good H) (hle : H.le H') : s.Good H' :=
  ⟨h.len, h.cap, h.big, h.at_, fun k x hk => Hp.cells_le hle (h.cells k x hk), fun x hx => Enc.mono hle (h.els x hx)⟩
theorem Slc.Good.row (h : s.Good H) {k : Nat} (hk : k < s.len) : H.cells s.b (s.o + k * Enc.size α) (enc (s.els[k]'(by rw [h.len]; exact hk))) :=
  h.cells k _ (List.getElem?_eq_getElem _)
theorem Slc.Good.cell (h : s.Good H) {k j : Nat} (hk : k < s.len) {v : Value} (hv : (enc (s.els[k]'(by rw [h.len]; exact hk)))[j]? = some v) : H.cell s.b (s.o + k * Enc.size α + j) = some v :=
  h.row hk j v hv
theorem Slc.Good.cell0 (h : s.Good H) {k : Nat} (hk : k < s.len) {v : Value} (hv : (enc (s.els[k]'(by rw [h.len]; exact hk)))[0]? = some v) : H.cell s.b (s.o + k * Enc.size α) = some v :=
  h.row hk 0 v hv
theorem Slc.Good.part (h : s.Good H) {k j m : Nat} (hk : k < s.len) {vs : List Value} (hv : ((enc (s.els[k]'(by rw [h.len]; exact hk))).drop j).take m = vs) : H.cells s.b (s.o + k * Enc.size α + j) vs := fun i v hi => by
  rw [← hv, List.getElem?_take] at hi
  by_cases him : i < m
  · rw [if_pos him, List.getElem?_drop] at hi
    rw [Nat.add_assoc]
    exact h.row hk (j + i) v hi
  · rw [if_neg him] at hi; cases hi
theorem Slc.Good.el (h : s.Good H) {k : Nat} (hk : k < s.len) : Enc.good H (s.els[k]'(by rw [h.len]; exact hk)) := h.els _ (List.getElem_mem _)
def Slc.nil (α : Type) : Slc α := ⟨none, 0, 0, []⟩
theorem Slc.nil_good : (Slc.nil α).Good H := ⟨rfl, Nat.le_refl _, by simp [Slc.nil], fun h => by simp [Slc.nil] at h, fun k x h => by simp [Slc.nil] at h, fun x h => by simp [Slc.nil] at h⟩
end
section
variable {P : Program} {n : FK} {w0 : World} {H0 H : Hp} {S : World → Prop} {env : List (Nat × Value)} {L : List Loc}
theorem V.elem [Tys P] {t e : TypeId} {x y : Operand} {A : Option Addr} {b o m c j : Nat} {i : Int} {k ke : TyK} {ik : IntKind} (hk : tyk P t = some k) (hd : k.desc = .slice e) (hke : tyk P e = some ke) (hx : ev env x = some (.slice A m c)) (hy : ev env y = some (.int ik i)) (hi : i = (j : Int)) (h1 : j < m) (hA : A = some ⟨b, o, none⟩) :
    V P n S env (.indexAddr t x y) (.pointer (some ⟨b, o + j * ke.size, none⟩)) := by
  subst hA
  subst hi
  have := V.indexAddr (P := P) (n := n) (S := S) (x := x) (y := y) (env := env) hk hd hke hx hy (by omega) (by omega)
  simpa using this
theorem V.elemI [Tys P] {t e : TypeId} {x y : Operand} {A : Option Addr} {b o m c : Nat} {i : Int} {k ke : TyK} {ik : IntKind} (hk : tyk P t = some k) (hd : k.desc = .slice e) (hke : tyk P e = some ke) (hx : ev env x = some (.slice A m c)) (hy : ev env y = some (.int ik i)) (hi : 0 ≤ i ∧ i < m) (hA : A = some ⟨b, o, none⟩) :
    V P n S env (.indexAddr t x y) (.pointer (some ⟨b, o + i.toNat * ke.size, none⟩)) := by
  subst hA
  exact V.indexAddr hk hd hke hx hy hi.1 hi.2
end
end Go.Proofs.YthabgdbhgcgemaaGreatDoor
namespace Go.Proofs.YthabgdbhgcgemaaGreatDoor
set_option linter.unusedVariables false
set_option linter.unusedSimpArgs false
open Go Go.RowKit
open Enc (enc)
theorem foldl_put (off : Nat) : ∀ (l : List Value) (k : Nat) (cs : Array Value), (l.zipIdx k).foldl (fun (cs : Array Value) (p : Value × Nat) => cs.setIfInBounds (off + p.2) p.1) cs = (putCells cs.toList (off + k) l).toArray
  | [], k, cs => by simp [putCells]
  | v :: l, k, cs => by
    simp only [List.zipIdx_cons, List.foldl_cons]
    rw [foldl_put off l (k + 1)]
    simp [putCells, Nat.add_assoc]
def fillL (place : Nat → Option (Nat × Nat)) : List Value → List (Nat × Value) → Option (List Value)
  | cs, [] => some cs
  | cs, (i, v) :: r =>
    match place i with
    | none => none
    | some (off, size) => bif Nat.beq v.cells.toList.length size && Nat.ble (off + size) cs.length then fillL place (putCells cs off v.cells.toList) r else none
theorem fill_eq (place : Nat → Option (Nat × Nat)) : ∀ (ps : List (Nat × Value)) (cs : List Value) (out : List Value), fillL place cs ps = some out → Instr.fill place cs.toArray ps = some out.toArray
  | [], cs, out, h => by simp [fillL] at h; simp [Instr.fill, h]
  | (i, v) :: r, cs, out, h => by
    simp only [fillL] at h
    unfold Instr.fill
    cases hp : place i with
    | none => rw [hp] at h; cases h
    | some p =>
      obtain ⟨off, size⟩ := p
      rw [hp] at h
      simp only at h ⊢
      cases hb : (Nat.beq v.cells.toList.length size && Nat.ble (off + size) cs.length) with
      | false => rw [hb] at h; cases h
      | true =>
        rw [hb] at h
        simp only [Bool.and_eq_true] at hb
        have h1 := Nat.eq_of_beq_eq_true hb.1
        have h2 := Nat.le_of_ble_eq_true hb.2
        rw [Array.length_toList] at h1
        rw [if_neg (by simp [h1]; omega)]
        rw [← fill_eq place r _ out h]
        congr 1
        rw [← Array.foldl_toList, Array.toList_zipIdx, foldl_put off _ 0]
        simp
def evp (env : List (Nat × Value)) : List (Nat × Operand) → Option (List (Nat × Value))
  | [] => some []
  | (i, x) :: r =>
    match ev env x, evp env r with
    | some v, some l => some ((i, v) :: l)
    | _, _ => none
section
variable {P : Program} {n : FK} {w0 : World} {H0 H : Hp} {S : World → Prop} {env : List (Nat × Value)} {L : List Loc}
theorem Fr.evp {a : Act} (h : Fr n env a) : ∀ {xs : List (Nat × Operand)} {vs : List (Nat × Value)}, evp env xs = some vs → xs.map (fun p => (p.1, a.eval p.2)) = vs
  | [], vs, hx => by simp [Go.Proofs.YthabgdbhgcgemaaGreatDoor.evp] at hx; simp [hx]
  | (i, x) :: r, vs, hx => by
    simp only [Go.Proofs.YthabgdbhgcgemaaGreatDoor.evp] at hx
    cases h1 : Go.Proofs.YthabgdbhgcgemaaGreatDoor.ev env x with
    | none => rw [h1] at hx; cases hx
    | some v =>
      cases h2 : Go.Proofs.YthabgdbhgcgemaaGreatDoor.evp env r with
      | none => rw [h1, h2] at hx; cases hx
      | some l =>
        rw [h1, h2] at hx
        simp at hx
        subst hx
        simp [h.ev h1, h.evp h2]
def placeF (fs : List (Nat × Nat × TypeId)) (i : Nat) : Option (Nat × Nat) := (fs[i]?).map fun f => (f.1, f.2.1)
theorem TyOk.zeroRun {t : TypeId} {k : TyK} (h : TyOk P t k) (w : World) : (zeroValue t).run P w = .ok k.zero w := by
  obtain ⟨i, hi, _, _, hz⟩ := h.get
  simp [zeroValue, typeInfo, hi, hz]
theorem run_places {fields : List Field} (hc : ∀ f ∈ fields, P.cellsOf f.type ≠ 0) (w : World) :
    ∀ (acc : Array (Nat × Nat)), (List.foldlM (fun (acc : Array (Nat × Nat)) (f : Field) => do let b ← (do pure (f.offset, ← sizeOf f.type) : Sem (Nat × Nat)); pure (acc.push b)) acc fields).run P w = .ok (acc ++ (fields.map fun f => (f.offset, P.cellsOf f.type)).toArray) w := by
  induction fields with
  | nil => intro acc; simp
  | cons f fs ih =>
    intro acc
    rw [List.foldlM_cons]
    have h1 := sizeOf_of_cells (P := P) (t := f.type) rfl (hc f (by simp)) w
    simp only [Sem.run_bind, h1, Result.andThen_ok, Sem.run_pure]
    rw [ih (fun g hg => hc g (by simp [hg]))]
    simp
theorem V.build [Tys P] {t : TypeId} {parts : Array (Nat × Operand)} {k : TyK} {fs : List (Nat × Nat × TypeId)} {ps : List (Nat × Value)} {zs cs : List Value} (hk : tyk P t = some k) (hd : k.desc = .struct fs) (hn0 : fs.all (fun f => !Nat.beq f.2.1 0) = true)
    (hp : evp env parts.toList = some ps) (hz : k.zero.cells = zs.toArray) (hf : fillL (placeF fs) zs ps = some cs) : V P n S env (.build t parts) (.agg cs.toArray) :=
  ⟨fun o a w ho hfr _ => by
    obtain ⟨d, hu, hf'⟩ := (tyk_ok hk).und
    rw [hd] at hf'
    obtain ⟨fields, rfl, hmap⟩ := hf'
    have hparts : parts.map (fun (p : Nat × Operand) => (p.1, a.eval p.2)) = ps.toArray := by
      apply Array.toList_inj.1
      simpa using hfr.evp hp
    have hc : ∀ f ∈ fields.toList, P.cellsOf f.type ≠ 0 := fun f hf0 e => by
      have : (f.offset, P.cellsOf f.type, f.type) ∈ fs := by rw [← hmap]; exact List.mem_map_of_mem hf0
      have := List.all_eq_true.1 hn0 _ this
      rw [e] at this
      simp at this
    have hpl : (fields.mapM fun f => (do pure (f.offset, ← sizeOf f.type) : Sem (Nat × Nat))).run P w = .ok (fields.toList.map fun f => (f.offset, P.cellsOf f.type)).toArray w := by
      rw [Array.mapM_eq_foldlM, ← Array.foldlM_toList]
      have := run_places (P := P) hc w #[]
      simpa using this
    have hplace : (fun i => ((fields.toList.map fun f => (f.offset, P.cellsOf f.type)).toArray)[i]?) = placeF fs := by
      funext i
      unfold placeF
      rw [← hmap]
      simp only [List.getElem?_toArray, List.getElem?_map, Option.map_map]
      cases fields.toList[i]? <;> rfl
    have hfill : Instr.fill (fun i => ((fields.toList.map fun f => (f.offset, P.cellsOf f.type)).toArray)[i]?) zs.toArray ps = some cs.toArray := by
      rw [hplace]; exact fill_eq _ ps zs cs hf
    unfold execOp; rw [ho]
    simp only [Instr.build, Sem.run_bind, (tyk_ok hk).zeroRun w, Result.andThen_ok, run_underlying hu, hpl, hz, hparts]
    rw [hfill]
    rfl⟩
theorem put_all : ∀ (vs cs : List Value) (o : Nat) (pre : List Value), cs.length = o + vs.length → cs.take o = pre → putCells cs o vs = pre ++ vs
  | [], cs, o, pre, hl, hp => by
    simp only [putCells, List.append_nil]
    rw [← hp, List.take_of_length_le (by simp at hl; omega)]
  | v :: vs, cs, o, pre, hl, hp => by
    simp only [List.length_cons] at hl
    rw [putCells, put_all vs (cs.set o v) (o + 1) (pre ++ [v]) (by simp; omega) ?_]
    · simp
    · rw [List.take_succ_eq_append_getElem (by simp; omega), List.take_set_of_le (Nat.le_refl _), hp]
      simp
theorem X.buildSlice1 [Tys P] {d : Nat} {t e ty : TypeId} {x : Operand} {pos : String} {after : Array Edge} {g : Option (Nat × Bool)} {k ke : TyK} {v : Value} {cs : List Value} (hn : Nat.blt d n.n = true) (hk : tyk P t = some k) (hd : k.desc = .slice e) (hke : tyk P e = some ke) (hx : ev env x = some v) (hv : v.cells = cs.toArray) (hl : cs.length = ke.size)
    (hsm : Nat.ble ke.size 16777216 = true) :
    X P n w0 H0 env H L ⟨some d, .buildSlice t 1 #[(0, x)], ty, pos, after, g⟩ true (G := Nat) (fun _ => True) (fun b => (d, .slice (some ⟨b, 0, none⟩) 1 1) :: env) (fun _ => H) (fun b => .blk b e cs :: L) :=
  ⟨fun a w hf hs K Q hK => by
    obtain ⟨dd, hu, hf'⟩ := (tyk_ok hk).und
    rw [hd] at hf'
    simp only [TyD.fits] at hf'
    subst hf'
    have hsm' := Nat.le_of_ble_eq_true hsm
    unfold Oper.wp
    have hfill : ∀ (zs : Array Value), zs.size = ke.size → Instr.fill (fun i => some (i * ke.size, ke.size)) zs [(0, v)] = some cs.toArray := by
      intro zs hz
      have hz' : zs = zs.toList.toArray := by simp
      rw [hz']
      apply fill_eq
      simp only [fillL, hv, Nat.zero_mul]
      rw [show (Nat.beq cs.length ke.size && Nat.ble (0 + ke.size) zs.toList.length) = true by simp [hl, hz]]
      simp only [cond_true]
      rw [put_all cs zs.toList 0 [] (by simp [hz, hl]) (by simp)]
      simp
    have : (execOp a.eval ⟨some d, .buildSlice t 1 #[(0, x)], ty, pos, after, g⟩).run P w = .ok (.value (.slice (some ⟨w.heap.size, 0, none⟩) 1 1)) (w.alloc (.cells cs.toArray e)) := by
      unfold execOp
      simp only [Instr.buildSlice, Sem.run_bind, run_underlying hu, Result.andThen_ok, (tyk_ok hke).sizeOf w, Nat.one_mul, List.map_toArray, List.map_cons, List.map_nil, hf.ev hx]
      rw [if_neg (by omega)]
      by_cases h0 : ke.size = 0
      · rw [if_pos h0]
        simp only [Sem.run_bind, Sem.run_pure, Result.andThen_ok]
        rw [hfill _ (by simp [h0])]
        simp [newRow, newObj]
        rfl
      · rw [if_neg h0]
        simp only [Sem.run_bind, (tyk_ok hke).zeroRun w, Result.andThen_ok, Sem.run_pure]
        rw [hfill _ (by simp)]
        simp [newRow, newObj]
        rfl
    rw [this]
    exact hK _ _ _ trivial (fun _ => (Below.refl _ _).alloc (Nat.le_refl _) _) (hf.put hn _) (hs.blk e cs)⟩
theorem X.buildSlice0 [Tys P] {d : Nat} {t e ty : TypeId} {pos : String} {after : Array Edge} {g : Option (Nat × Bool)} {k ke : TyK} (hn : Nat.blt d n.n = true) (hk : tyk P t = some k) (hd : k.desc = .slice e) (hke : tyk P e = some ke) :
    X P n w0 H0 env H L ⟨some d, .buildSlice t 0 #[], ty, pos, after, g⟩ true (G := Nat) (fun _ => True) (fun b => (d, .slice (some ⟨b, 0, none⟩) 0 0) :: env) (fun _ => H) (fun b => .row (.slice (some ⟨b, 0, none⟩) 0 0) e ke.size 0 [] :: L) :=
  ⟨fun a w hf hs K Q hK => by
    obtain ⟨dd, hu, hf'⟩ := (tyk_ok hk).und
    rw [hd] at hf'
    simp only [TyD.fits] at hf'
    subst hf'
    unfold Oper.wp
    have : (execOp a.eval ⟨some d, .buildSlice t 0 #[], ty, pos, after, g⟩).run P w = .ok (.value (.slice (some ⟨w.heap.size, 0, none⟩) 0 0)) (w.alloc (.cells #[] e)) := by
      unfold execOp
      have h0 : (Array.map (fun (_ : Nat) => (default : Value)) (Array.range 0)) = #[] := by simp
      simp [Instr.buildSlice, run_underlying hu, (tyk_ok hke).sizeOf w, Instr.fill, newRow, newObj, h0]
      rfl
    rw [this]
    refine hK _ _ _ trivial (fun _ => (Below.refl _ _).alloc (Nat.le_refl _) _) (hf.put hn _) (hs.alloc (e := .row (.slice (some ⟨w.heap.size, 0, none⟩) 0 0) e ke.size 0 []) rfl ?_)
    exact ⟨by simp, .inr ⟨w.heap.size, 0, #[], rfl, hs.below.size, heap_alloc_new w _, Nat.le_refl _, by simp [maxLen], by simp, by simp⟩⟩⟩
theorem ownsRow_nil (w : World) (base : Nat) (e : TypeId) (size : Nat) : w.ownsRow base e size (.slice none 0 0) 0 [] := ⟨by simp, .inl ⟨rfl, rfl⟩⟩
theorem St.nilRow {w : World} (hs : St w0 H0 H L w) (e : TypeId) (size : Nat) : St w0 H0 H (.row (.slice none 0 0) e size 0 [] :: L) w :=
  ⟨hs.below, hs.sat, hs.le, hs.new, fun f hf => by
    rcases List.mem_cons.1 hf with rfl | hf
    · exact ownsRow_nil _ _ _ _
    · exact hs.ok f hf, fun f hf b hb => by
    rcases List.mem_cons.1 hf with rfl | hf
    · simp [Loc.at, Value.ownBlock] at hb
    · exact hs.out f hf b hb, .cons (fun f _ b hb => by simp [Loc.at, Value.ownBlock] at hb) hs.apart⟩
theorem T.nilRow {Q : Exit → Act → World → Prop} {c : Code} (e : TypeId) (size : Nat) (h : T P n w0 H0 c Q env H (.row (.slice none 0 0) e size 0 [] :: L)) : T P n w0 H0 c Q env H L :=
  ⟨fun a w hf hs => h.out a w hf (hs.nilRow e size)⟩
theorem St.turn {w w' : World} (hs : St w0 H0 H L w) {i : Nat} {e e' : Loc} (hi : L[i]? = some e) (hg : w.grownBy w' e.at) (hdr : w.drawn ≤ w'.drawn) (hat : e'.at = e.at ∨ e'.at = some w.heap.size) (hok : e'.ok w0.heap.size w') : St w0 H0 H (L.set i e') w' := by
  have hme := List.mem_of_getElem? hi
  have keep : ∀ k, k < w.heap.size → e.at ≠ some k → w'.heap[k]? = w.heap[k]? := fun k hk hne => hg.block k hk (fun e' => hne e'.symm)
  have far : ∀ b, e'.at = some b → ∀ f ∈ L, e.far f ∨ f.far e → f.at ≠ some b := by
    intro b hb f hf hfar hfb
    rcases hat with h | h
    · rcases hfar with hh | hh
      · exact hh b (h ▸ hb) hfb
      · exact hh b hfb (h ▸ hb)
    · rw [h] at hb; cases hb
      have := ((hs.ok f hf).lt hfb).1
      omega
  refine ⟨⟨hg.os.trans hs.below.os, hg.tape.trans hs.below.tape, hg.output.trans hs.below.output, Nat.le_trans hs.below.size hg.size, fun k hk => (keep k (Nat.lt_of_lt_of_le hk hs.below.size) (fun he => ?_)).trans (hs.below.block k hk), Nat.le_trans hs.below.drawn hdr⟩, fun k o ho => ?_, hs.le, hs.new, ?_, ?_, ?_⟩
  · have := ((hs.ok e hme).lt he).2; omega
  · have hk := hs.sat.lt (k := k) (by rw [ho]; simp)
    rw [keep k hk (fun he => by rw [hs.out e hme k he] at ho; cases ho)]
    exact hs.sat k o ho
  · intro f hf
    obtain ⟨j, hj⟩ := List.getElem?_of_mem hf
    rw [List.getElem?_set] at hj
    by_cases hij : i = j
    · subst hij
      simp only [if_true] at hj
      split at hj
      · cases hj; exact hok
      · cases hj
    · rw [if_neg hij] at hj
      have hfm := List.mem_of_getElem? hj
      refine (hs.ok f hfm).keep fun c hc => keep c ((hs.ok f hfm).lt hc).1 fun he => ?_
      have hap := hs.apart
      rw [List.pairwise_iff_getElem] at hap
      obtain ⟨hil, hie⟩ := List.getElem?_eq_some_iff.1 hi
      obtain ⟨hjl, hje⟩ := List.getElem?_eq_some_iff.1 hj
      rcases Nat.lt_or_ge i j with hlt | hge
      · exact hap i j hil hjl hlt c (by rw [hie]; exact he) (by rw [hje]; exact hc)
      · exact hap j i hjl hil (by omega) c (by rw [hje]; exact hc) (by rw [hie]; exact he)
  · intro f hf c hc
    rcases List.mem_or_eq_of_mem_set hf with hf | rfl
    · exact hs.out f hf c hc
    · rcases hat with h | h
      · exact hs.out e hme c (h ▸ hc)
      · rw [h] at hc; cases hc
        by_cases hk : H w.heap.size = none
        · exact hk
        · have := hs.sat.lt hk; omega
  · obtain ⟨hil, hie⟩ := List.getElem?_eq_some_iff.1 hi
    have hap := hs.apart
    rw [List.pairwise_iff_getElem] at hap ⊢
    intro a b ha hb hab c hc hc2
    simp only [List.length_set] at ha hb
    rw [List.getElem_set] at hc hc2
    by_cases h1 : i = a
    · rw [if_pos h1] at hc
      rw [if_neg (by omega)] at hc2
      exact far c hc _ (List.getElem_mem _) (.inl (by rw [← hie]; subst h1; exact hap i b ha hb hab)) hc2
    · rw [if_neg h1] at hc
      by_cases h2 : i = b
      · rw [if_pos h2] at hc2
        exact far c hc2 _ (List.getElem_mem _) (.inr (by rw [← hie]; subst h2; exact hap a i ha hb hab)) hc
      · rw [if_neg h2] at hc2
        exact hap a b ha hb hab c hc hc2
theorem run_append_x [Tys P] {w : World} (hs : St w0 H0 H L w) {t e : TypeId} {k ke : TyK} (hk : tyk P t = some k) (hd : k.desc = .slice e) (hke : tyk P e = some ke) (h0 : Nat.beq ke.size 0 = false) (hz : Nat.beq ke.zero.cells.size ke.size = true) {i : Nat} {v : Value} {m : Nat} {xs : List Value} (hi : L[i]? = some (.row v e ke.size m xs))
    {ad : Addr} {c j : Nat} {news : List Value} (hl : news.length = j * ke.size) (hnews : ∀ q u, news[q]? = some u → w.cell? (ad.add q) = some u) (h1 : ∀ u ∈ news, u.oneCell' = true) (hb : (m + j) * ke.bytes ≤ 140737488355328) (h63 : m + j ≤ 9223372036854775807) (ty : TypeId) :
    ∃ v' w', (Builtin.append_ #[t, t] ty #[v, .slice (some ad) j c]).run P w = .ok v' w' ∧ St w0 H0 H (L.set i (.row v' e ke.size (m + j) (xs ++ news))) w' ∧ (v' = .slice none 0 0 ↔ v = .slice none 0 0 ∧ j = 0) := by
  obtain ⟨dd, hu, hf'⟩ := (tyk_ok hk).und
  rw [hd] at hf'
  simp only [TyD.fits] at hf'
  subst hf'
  obtain ⟨inf, hinf, e1, e2, e3⟩ := (tyk_ok hke).get
  have h0' : 0 < ke.size := Nat.pos_of_ne_zero fun e => by rw [e] at h0; simp at h0
  obtain ⟨v', w', hrun, hown, hgr, hnil, hat⟩ := run_append_own_at (P := P) w w0.heap.size t ty e inf ke.zero ke.size ke.bytes hu hinf e3 e1 e2 (Nat.eq_of_beq_eq_true hz) h0' v m xs (hs.ok _ (List.mem_of_getElem? hi)) ad j c news hl hnews h1 (by simpa [maxLen] using h63) hb hs.below.size
  exact ⟨v', w', hrun, hs.turn hi hgr (run_drawn hrun) hat hown, hnil⟩
theorem run_appendOp {a : Act} {w w' : World} {o : Oper} {x y : Operand} {tys : Array TypeId} {v u r : Value} (ho : o.op = .call { callee := .builtin .append, args := #[x, y], argTypes := tys }) (hx : a.eval x = v) (hy : a.eval y = u)
    (h : (Builtin.append_ tys o.type #[v, u]).run P w = .ok r w') : (execOp a.eval o).run P w = .ok (.value r) w' := by
  unfold execOp
  rw [ho]
  simp [resolve, invoke, builtin, hx, hy, h]
theorem X.append [Tys P] (i : Nat) {d : Nat} {t e ty : TypeId} {x y : Operand} {pos : String} {after : Array Edge} {g : Option (Nat × Bool)} {k ke : TyK} {v : Value} {m j c b : Nat} {xs news : List Value} {T' : TypeId} (hn : Nat.blt d n.n = true) (hk : tyk P t = some k) (hd : k.desc = .slice e) (hke : tyk P e = some ke) (h0 : Nat.beq ke.size 0 = false) (hz : Nat.beq ke.zero.cells.size ke.size = true)
    (hx : ev env x = some v) (hi : L[i]? = some (.row v e ke.size m xs)) (hy : ev env y = some (.slice (some ⟨b, 0, none⟩) j c)) (hm : Loc.blk b T' news ∈ L) (hl : news.length = j * ke.size) (h1 : news.all (·.oneCell') = true) (hb : (m + j) * ke.bytes ≤ 140737488355328) (h63 : m + j ≤ 9223372036854775807) :
    X P n w0 H0 env H L ⟨some d, .call { callee := .builtin .append, args := #[x, y], argTypes := #[t, t] }, ty, pos, after, g⟩ false (G := Value) (fun v' => v' = .slice none 0 0 ↔ v = .slice none 0 0 ∧ j = 0) (fun v' => (d, v') :: env) (fun _ => H) (fun v' => L.set i (.row v' e ke.size (m + j) (xs ++ news))) :=
  ⟨fun a w hf hs K Q hK => by
    obtain ⟨v', w', hrun, hst, hnil⟩ := run_append_x hs hk hd hke h0 hz hi (ad := ⟨b, 0, none⟩) hl (fun q u hu => by rw [Addr.add_mid, Nat.zero_add]; exact hs.blk_cell hm hu) (fun u hu => List.all_eq_true.1 h1 u hu) hb h63 ty (c := c)
    unfold Oper.wp
    rw [run_appendOp (v := v) (u := .slice (some ⟨b, 0, none⟩) j c) rfl (hf.ev hx) (hf.ev hy) hrun]
    exact hK v' _ _ hnil (fun h => by cases h) (hf.put hn _) hst⟩
def Hp.put (H : Hp) (b : Nat) (o : Obj) : Hp := fun k => if k = b then some o else H k
theorem Hp.put_le (H : Hp) {b : Nat} (o : Obj) (hb : H b = none) : H.le (H.put b o) := fun k x hk => by
  unfold Hp.put
  by_cases e : k = b
  · subst e; rw [hb] at hk; cases hk
  · rw [if_neg e]; exact hk
theorem St.freeze {w : World} {e : Loc} (hs : St w0 H0 H (e :: L) w) {b : Nat} {o : Obj} (hb : e.at = some b) (ho : w.heap[b]? = some o) : St w0 H0 (H.put b o) L w := by
  have hme : e ∈ e :: L := by simp
  have hnone := hs.out e hme b hb
  have hbase := ((hs.ok e hme).lt hb).2
  refine ⟨hs.below, fun k x hk => ?_, hs.le.trans (Hp.put_le H o hnone), fun k h0 h1 => ?_, fun f hf => hs.ok f (by simp [hf]), fun f hf c hc => ?_, ?_⟩
  · unfold Hp.put at hk
    by_cases e : k = b
    · subst e; rw [if_pos rfl] at hk; cases hk; exact ho
    · rw [if_neg e] at hk; exact hs.sat k x hk
  · unfold Hp.put at h1
    by_cases e : k = b
    · subst e; exact hbase
    · rw [if_neg e] at h1; exact hs.new k h0 h1
  · unfold Hp.put
    have hap := hs.apart
    rw [List.pairwise_cons] at hap
    rw [if_neg (by rintro rfl; exact hap.1 f hf c hb hc)]
    exact hs.out f (by simp [hf]) c hc
  · have hap := hs.apart
    rw [List.pairwise_cons] at hap
    exact hap.2
theorem St.drop {w : World} {e : Loc} (hs : St w0 H0 H (e :: L) w) : St w0 H0 H L w := hs.sub (List.sublist_cons_self _ _)
end
def encs {α : Type} [Enc α] (l : List α) : List Value := l.flatMap enc
section
variable {P : Program} {n : FK} {w0 : World} {H0 H : Hp} {env : List (Nat × Value)} {L : List Loc} {α : Type} [Enc α]
theorem encs_nil : encs ([] : List α) = [] := rfl
theorem encs_snoc (l : List α) (x : α) : encs (l ++ [x]) = encs l ++ enc x := by simp [encs]
theorem encs_append (l m : List α) : encs (l ++ m) = encs l ++ encs m := by simp [encs]
theorem encs_length (l : List α) : (encs l).length = l.length * Enc.size α := by
  induction l with
  | nil => simp [encs]
  | cons x l ih => rw [encs, List.flatMap_cons, List.length_append, Enc.len, ← encs, ih, List.length_cons]; rw [Nat.add_mul, Nat.one_mul, Nat.add_comm]
theorem encs_get (l : List α) (k j : Nat) (x : α) (v : Value) (hk : l[k]? = some x) (hj : (enc x)[j]? = some v) : (encs l)[k * Enc.size α + j]? = some v := by
  induction l generalizing k with
  | nil => simp at hk
  | cons y l ih =>
    rw [encs, List.flatMap_cons, ← encs]
    cases k with
    | zero =>
      simp at hk
      subst hk
      rw [Nat.zero_mul, Nat.zero_add, List.getElem?_append_left (List.getElem?_eq_some_iff.1 hj).1]
      exact hj
    | succ k =>
      simp at hk
      have hl := Enc.len y
      rw [List.getElem?_append_right (by rw [hl, Nat.add_mul]; omega), hl]
      have : (k + 1) * Enc.size α + j - Enc.size α = k * Enc.size α + j := by rw [Nat.add_mul]; omega
      rw [this]
      exact ih k hk
theorem encs_one (l : List α) : ∀ v ∈ encs l, v.oneCell' = true := fun v hv => by
  obtain ⟨x, _, hx⟩ := List.mem_flatMap.1 hv
  exact List.all_eq_true.1 (Enc.one x) v hx
theorem St.freezeRow {w : World} {v : Value} {e : TypeId} {size m : Nat} {els : List α} (hs : St w0 H0 H (.row v e size m (encs els) :: L) w) (hsz : size = Enc.size α) (hm : els.length = m) (hg : ∀ x ∈ els, Enc.good H x) :
    ∃ (H' : Hp) (s : Slc α), s.v = v ∧ s.els = els ∧ s.Good H' ∧ H.le H' ∧ St w0 H0 H' L w := by
  subst hsz
  rcases (show w.ownsRow w0.heap.size e (Enc.size α) v m (encs els) from hs.ok (.row v e (Enc.size α) m (encs els)) (by simp)).2 with ⟨rfl, h0⟩ | ⟨g, cap, cur, rfl, hbase, hh, hmc, hcm, hcs, htake⟩
  · subst h0
    have : els = [] := List.eq_nil_of_length_eq_zero hm
    subst this
    exact ⟨H, Slc.nil α, rfl, rfl, Slc.nil_good, .refl _, hs.drop⟩
  · have hnone : H g = none := hs.out _ (by simp : Loc.row (.slice (some ⟨g, 0, none⟩) m cap) e (Enc.size α) m (encs els) ∈ _) g rfl
    have hle := Hp.put_le H (.cells cur e (0, 0)) hnone
    refine ⟨H.put g (.cells cur e (0, 0)), ⟨some ⟨g, 0, none⟩, m, cap, els⟩, rfl, rfl, ⟨hm, hmc, by simpa [maxLen] using hcm, fun _ => rfl, fun k x hk j u hj => ?_, fun x hx => Enc.mono hle (hg x hx)⟩, hle, hs.freeze rfl hh⟩
    have h1 := encs_get els k j x u hk hj
    have hlt : k * Enc.size α + j < m * Enc.size α := by
      have := (List.getElem?_eq_some_iff.1 h1).1
      rw [encs_length, hm] at this; exact this
    have hc : (H.put g (.cells cur e (0, 0))).cell g (0 + k * Enc.size α + j) = cur[0 + k * Enc.size α + j]? := by
      unfold Hp.cell Hp.put
      rw [if_pos rfl]
    refine Eq.trans hc ?_
    rw [Nat.zero_add, ← h1, ← htake, List.getElem?_take, if_pos hlt]
    simp
end
end Go.Proofs.YthabgdbhgcgemaaGreatDoor
namespace Go.Proofs.YthabgdbhgcgemaaGreatDoor
set_option linter.unusedVariables false
set_option linter.unusedSimpArgs false
open Go Go.RowKit
open Enc (enc)
section
variable {P : Program} {n : FK} {w0 : World} {H0 H : Hp} {S : World → Prop} {env : List (Nat × Value)} {L : List Loc}
theorem V.rem {t u : TypeId} {x y : Operand} {i j : Int} (hx : ev env x = some (intV i)) (hy : ev env y = some (intV j)) (hj : 0 < j) : V P n S env (.binOp .rem t x y u) (intV (i.tmod j)) :=
  ⟨fun o a w ho hf _ => by
    unfold execOp; rw [ho]
    simp only [hf.ev hx, hf.ev hy, binOp, eqGuard, Op.intDiv]
    simp [show j ≠ 0 by omega]⟩
theorem V.mul {t u : TypeId} {x y : Operand} {i j : Int} (hx : ev env x = some (intV i)) (hy : ev env y = some (intV j)) (h : -9223372036854775808 ≤ i * j ∧ i * j ≤ 9223372036854775807) : V P n S env (.binOp .mul t x y u) (intV (i * j)) :=
  ⟨fun o a w ho hf _ => by unfold execOp; rw [ho]; simp [hf.ev hx, hf.ev hy, binOp, eqGuard, Op.intArith, wrap_i64 h]⟩
theorem V.sgtr {t u : TypeId} {x y : Operand} {i j : List UInt8} (hx : ev env x = some (strV i)) (hy : ev env y = some (strV j)) : V P n S env (.binOp .gtr t x y u) (.bool (!(Op.bytesLess i j || decide (i = j)))) :=
  ⟨fun o a w ho hf _ => by
    unfold execOp; rw [ho]; simp only [hf.ev hx, hf.ev hy, binOp, eqGuard, Op.stringOp, ByteArray.toList_mk]
    have : (i == j) = decide (i = j) := by rw [Bool.eq_iff_iff]; simp
    rw [← this]; simp⟩
theorem V.sadd {t u : TypeId} {x y : Operand} {i j : List UInt8} (hx : ev env x = some (strV i)) (hy : ev env y = some (strV j)) (h : i.length + j.length ≤ 9223372036854775807) : V P n S env (.binOp .add t x y u) (strV (i ++ j)) :=
  ⟨fun o a w ho hf _ => by
    have hs : ((⟨i.toArray⟩ : ByteArray).size + (⟨j.toArray⟩ : ByteArray).size) ≤ 9223372036854775807 := h
    have := run_string_add_sum (P := P) (w := w) ⟨i.toArray⟩ ⟨j.toArray⟩ hs
    have he : (⟨i.toArray⟩ : ByteArray) ++ (⟨j.toArray⟩ : ByteArray) = ⟨(i ++ j).toArray⟩ := by
      apply ByteArray.ext
      simp
    rw [he] at this
    unfold execOp; rw [ho]; simp only [hf.ev hx, hf.ev hy, binOp, eqGuard, Sem.run_bind]
    simp [this]⟩
theorem V.beql {t u : TypeId} {x y : Operand} {i j : Bool} (hk : P.underlying t = some .bool) (hx : ev env x = some (.bool i)) (hy : ev env y = some (.bool j)) : V P n S env (.binOp .eql t x y u) (.bool (i == j)) :=
  ⟨fun o a w ho hf _ => by unfold execOp; rw [ho]; simp [hf.ev hx, hf.ev hy, binOp, eqGuard, Op.equal, Op.maxDepth, run_equalIn_bool' w 9999 t i j hk]⟩
theorem V.sbyte [Tys P] {t : TypeId} {x y : Operand} {l : List UInt8} {i : Int} {ik : IntKind} {k : TyK} (hk : tyk P t = some k) (hd : k.desc = .str) (hx : ev env x = some (strV l)) (hy : ev env y = some (.int ik i)) (h0 : 0 ≤ i ∧ i < l.length) : V P n S env (.index t x y) (.int .u8 (l.getD i.toNat 0).toNat) :=
  V.sindex hk hd hx hy h0.1 (by rw [List.getD_eq_getElem?_getD, List.getElem?_eq_getElem (by omega)]; rfl)
theorem V.sbyteN [Tys P] {t : TypeId} {x y : Operand} {l : List UInt8} {j : Nat} {ik : IntKind} {k : TyK} (hk : tyk P t = some k) (hd : k.desc = .str) (hx : ev env x = some (strV l)) (hy : ev env y = some (.int ik (j : Int))) (h0 : j < l.length) : V P n S env (.index t x y) (.int .u8 (l.getD j 0).toNat) :=
  V.sbyte hk hd hx hy (by omega)
theorem V.sbyte0 [Tys P] {t : TypeId} {x y : Operand} {l : List UInt8} {ik : IntKind} {k : TyK} (hk : tyk P t = some k) (hd : k.desc = .str) (hx : ev env x = some (strV l)) (hy : ev env y = some (.int ik 0)) (h0 : 0 < l.length) : V P n S env (.index t x y) (.int .u8 (l.getD 0 0).toNat) :=
  V.sbyte hk hd hx hy (by omega)
theorem run_bound {w : World} {k : IntKind} {i : Int} {j y : Nat} {c : BoundsCode} (hi : i = (j : Int)) (hj : j ≤ y) : (Instr.sliceBound (.int k i) y c).run P w = .ok j w := by
  subst hi
  simp [Instr.sliceBound, asIntOf, show (j : Int) ≤ y by omega]
theorem V.scut [Tys P] {t : TypeId} {x y z : Operand} {l : List UInt8} {i k : Int} {a b : Nat} {K : TyK} {ik jk : IntKind} (hk : tyk P t = some K) (hd : K.desc = .str) (hx : ev env x = some (strV l)) (hy : ev env y = some (.int ik i)) (hz : ev env z = some (.int jk k)) (hi : i = (a : Int)) (hj : k = (b : Int)) (h1 : a ≤ b) (h2 : b ≤ l.length) :
    V P n S env (.slice t x (some y) (some z) none) (strV ((l.drop a).take (b - a))) :=
  ⟨fun o A w ho hf _ => by
    obtain ⟨d, hu, hf'⟩ := (tyk_ok hk).und
    rw [hd] at hf'
    simp only [TyD.fits] at hf'
    subst hf'
    have hs : (⟨l.toArray⟩ : ByteArray).size = l.length := rfl
    unfold execOp; rw [ho]
    simp [hf.ev hx, hf.ev hy, hf.ev hz, Instr.sliceAt, Instr.slice, Instr.sliceBounds, run_underlying hu, hs, run_bound hj h2, run_bound hi h1, ByteArray.extract_mk]⟩
theorem V.scutL [Tys P] {t : TypeId} {x y : Operand} {l : List UInt8} {i : Int} {a : Nat} {K : TyK} {ik : IntKind} (hk : tyk P t = some K) (hd : K.desc = .str) (hx : ev env x = some (strV l)) (hy : ev env y = some (.int ik i)) (hi : i = (a : Int)) (h1 : a ≤ l.length) :
    V P n S env (.slice t x (some y) none none) (strV (l.drop a)) :=
  ⟨fun o A w ho hf _ => by
    obtain ⟨d, hu, hf'⟩ := (tyk_ok hk).und
    rw [hd] at hf'
    simp only [TyD.fits] at hf'
    subst hf'
    have hs : (⟨l.toArray⟩ : ByteArray).size = l.length := rfl
    unfold execOp; rw [ho]
    simp [hf.ev hx, hf.ev hy, Instr.sliceAt, Instr.slice, Instr.sliceBounds, run_underlying hu, hs, run_bound hi h1, ByteArray.extract_mk]
    rw [List.take_of_length_le (by simp)]⟩
theorem V.scutR [Tys P] {t : TypeId} {x y : Operand} {l : List UInt8} {i : Int} {a : Nat} {K : TyK} {ik : IntKind} (hk : tyk P t = some K) (hd : K.desc = .str) (hx : ev env x = some (strV l)) (hy : ev env y = some (.int ik i)) (hi : i = (a : Int)) (h1 : a ≤ l.length) :
    V P n S env (.slice t x none (some y) none) (strV (l.take a)) :=
  ⟨fun o A w ho hf _ => by
    obtain ⟨d, hu, hf'⟩ := (tyk_ok hk).und
    rw [hd] at hf'
    simp only [TyD.fits] at hf'
    subst hf'
    have hs : (⟨l.toArray⟩ : ByteArray).size = l.length := rfl
    unfold execOp; rw [ho]
    simp [hf.ev hx, hf.ev hy, Instr.sliceAt, Instr.slice, Instr.sliceBounds, run_underlying hu, hs, run_bound hi h1, ByteArray.extract_mk]⟩
theorem V.scutLT [Tys P] {t : TypeId} {x y : Operand} {l : List UInt8} {i : Int} {K : TyK} {ik : IntKind} (hk : tyk P t = some K) (hd : K.desc = .str) (hx : ev env x = some (strV l)) (hy : ev env y = some (.int ik i)) (h1 : 0 ≤ i ∧ i ≤ l.length) :
    V P n S env (.slice t x (some y) none none) (strV (l.drop i.toNat)) := V.scutL hk hd hx hy (by omega) (by omega)
theorem V.scutRT [Tys P] {t : TypeId} {x y : Operand} {l : List UInt8} {i : Int} {K : TyK} {ik : IntKind} (hk : tyk P t = some K) (hd : K.desc = .str) (hx : ev env x = some (strV l)) (hy : ev env y = some (.int ik i)) (h1 : 0 ≤ i ∧ i ≤ l.length) :
    V P n S env (.slice t x none (some y) none) (strV (l.take i.toNat)) := V.scutR hk hd hx hy (by omega) (by omega)
theorem V.scutT [Tys P] {t : TypeId} {x y z : Operand} {l : List UInt8} {i j : Int} {K : TyK} {ik jk : IntKind} (hk : tyk P t = some K) (hd : K.desc = .str) (hx : ev env x = some (strV l)) (hy : ev env y = some (.int ik i)) (hz : ev env z = some (.int jk j)) (h1 : 0 ≤ i ∧ i ≤ j ∧ j ≤ l.length) :
    V P n S env (.slice t x (some y) (some z) none) (strV ((l.drop i.toNat).take (j.toNat - i.toNat))) := V.scut hk hd hx hy hz (by omega) (by omega) (by omega) (by omega)
theorem V.elemArr [Tys P] {t e : TypeId} {x y : Operand} {b o m j : Nat} {i : Int} {k ke : TyK} {ik : IntKind} (hk : tyk P t = some k) (hd : k.desc = .array m e) (hke : tyk P e = some ke) (hx : ev env x = some (.pointer (some ⟨b, o, none⟩))) (hy : ev env y = some (.int ik i)) (hi : i = (j : Int)) (h1 : j < m) :
    V P n S env (.indexAddr t x y) (.pointer (some ⟨b, o + j * ke.size, none⟩)) :=
  ⟨fun op a w ho hf _ => by
    obtain ⟨d, hu, hf'⟩ := (tyk_ok hk).und
    rw [hd] at hf'
    simp only [TyD.fits] at hf'
    subst hf'
    subst hi
    unfold execOp; rw [ho]
    simp [hf.ev hx, hf.ev hy, Instr.indexAt, asIntOf, run_underlying hu, h1, Instr.sureAddr, (tyk_ok hke).sizeOf w, Addr.add_mid]⟩
theorem V.elemArrI [Tys P] {t e : TypeId} {x y : Operand} {b o m : Nat} {i : Int} {k ke : TyK} {ik : IntKind} (hk : tyk P t = some k) (hd : k.desc = .array m e) (hke : tyk P e = some ke) (hx : ev env x = some (.pointer (some ⟨b, o, none⟩))) (hy : ev env y = some (.int ik i)) (h1 : 0 ≤ i ∧ i < m) :
    V P n S env (.indexAddr t x y) (.pointer (some ⟨b, o + i.toNat * ke.size, none⟩)) :=
  V.elemArr hk hd hke hx hy (by omega) (by omega)
theorem St.satBlk {w : World} (hs : St w0 H0 H L w) {b : Nat} {T : TypeId} {cs : List Value} (hm : Loc.blk b T cs ∈ L) : Sat (H.put b (.cells cs.toArray T (0, 0))) w := fun k o hk => by
  unfold Hp.put at hk
  by_cases e : k = b
  · subst e; rw [if_pos rfl] at hk; cases hk; exact (hs.ok _ hm).2
  · rw [if_neg e] at hk; exact hs.sat k o hk
theorem Hp.put_cells {H : Hp} {b : Nat} {T : TypeId} {cs : List Value} : (H.put b (.cells cs.toArray T (0, 0))).cells b 0 cs := fun j v hj => by
  unfold Hp.cell Hp.put
  simp [hj]
theorem St.putLe {w : World} (hs : St w0 H0 H L w) {b : Nat} {T : TypeId} {cs : List Value} (hm : Loc.blk b T cs ∈ L) (o : Obj) : H.le (H.put b o) := Hp.put_le H o (hs.out _ hm b rfl)
theorem X.callR0 {d : Nat} {f : FuncId} {args : Array Operand} {tys : Array TypeId} {ty : TypeId} {pos : String} {after : Array Edge} {g : Option (Nat × Bool)} {vs : List Value} {v : Value}
    (hcall : ∀ (args : Array Value) (w : World), (callFunc f args).run P w = .ok (.enter f args) w) (hn : Nat.blt d n.n = true)
    (hargs : evs env args.toList = some vs) (hc : ∀ w, St w0 H0 H L w → Calls P f vs.toArray w (Ret w v)) :
    X P n w0 H0 env H L ⟨some d, .call { callee := .value (.func f), args := args, argTypes := tys }, ty, pos, after, g⟩ true (G := Unit) (fun _ => True) (fun _ => (d, v) :: env) (fun _ => H) (fun _ => L) :=
  ⟨fun a w hf hs K Q hK => by
    unfold Oper.wp
    rw [run_call rfl (by rfl) (hf.evs hargs) hcall]
    have hc' : Calls P f (#[] ++ vs.toArray ++ #[]) w (Ret w v) := by simpa using hc w hs
    refine Calls.mono hc' fun e w' ⟨he, hb⟩ => ?_
    subst he
    exact hK () _ _ trivial (fun _ => hb) (hf.put hn _) (hs.grow hb)⟩
def nums : Nat → List Value → List (Nat × Value)
  | _, [] => []
  | i, v :: r => (i, v) :: nums (i + 1) r
def evOnes (env : List (Nat × Value)) : Nat → List (Nat × Operand) → Option (List Value)
  | _, [] => some []
  | i, (j, x) :: r =>
    match ev env x, evOnes env (i + 1) r, Nat.beq j i with
    | some v, some l, true => some (v :: l)
    | _, _, _ => none
theorem evOnes_evp {env : List (Nat × Value)} : ∀ {i : Nat} {parts : List (Nat × Operand)} {vs : List Value}, evOnes env i parts = some vs → evp env parts = some (nums i vs)
  | _, [], vs, h => by simp [evOnes] at h; subst h; rfl
  | i, (j, x) :: r, vs, h => by
    unfold evOnes at h
    cases h1 : ev env x with
    | none => rw [h1] at h; cases h
    | some v =>
      cases h2 : evOnes env (i + 1) r with
      | none => rw [h1, h2] at h; cases h
      | some l =>
        cases h3 : Nat.beq j i with
        | false => rw [h1, h2, h3] at h; cases h
        | true =>
          rw [h1, h2, h3] at h
          simp at h
          subst h
          have := Nat.eq_of_beq_eq_true h3
          subst this
          simp [evp, h1, evOnes_evp h2, nums]
theorem fill_ones : ∀ (vs : List Value) (i : Nat) (cs pre : List Value), (∀ v ∈ vs, v.cells.toList = [v]) → cs.length = i + vs.length → cs.take i = pre → fillL (fun i => some (i, 1)) cs (nums i vs) = some (pre ++ vs)
  | [], i, cs, pre, _, hl, hp => by
    simp only [nums, fillL, List.append_nil]
    rw [← hp, List.take_of_length_le (by simp at hl; omega)]
  | v :: vs, i, cs, pre, hv, hl, hp => by
    simp only [List.length_cons] at hl
    simp only [nums, fillL]
    rw [hv v (by simp)]
    rw [show (Nat.beq [v].length 1 && Nat.ble (i + 1) cs.length) = true by simp; omega]
    simp only [cond_true, putCells]
    rw [fill_ones vs (i + 1) (cs.set i v) (pre ++ [v]) (fun u hu => hv u (by simp [hu])) (by simp; omega) ?_]
    · simp
    · rw [List.take_succ_eq_append_getElem (by simp; omega), List.take_set_of_le (Nat.le_refl _), hp]
      simp
def one1 : Value → Bool
  | .agg _ => false
  | _ => true
theorem one1_cells {v : Value} (h : one1 v = true) : v.cells.toList = [v] := by
  cases v <;> first | rfl | cases h
theorem X.buildOnes [Tys P] {d : Nat} {t e ty m : Nat} {parts : Array (Nat × Operand)} {pos : String} {after : Array Edge} {g : Option (Nat × Bool)} {k ke : TyK} {vs : List Value} (hn : Nat.blt d n.n = true) (hk : tyk P t = some k) (hd : k.desc = .slice e) (hke : tyk P e = some ke) (h1 : ke.size = 1) (hp' : evOnes env 0 parts.toList = some vs)
    (hv' : vs.all one1 = true) (hm : vs.length = m) (hsm : Nat.ble m 16777216 = true) :
    X P n w0 H0 env H L ⟨some d, .buildSlice t m parts, ty, pos, after, g⟩ true (G := Nat) (fun _ => True) (fun b => (d, .slice (some ⟨b, 0, none⟩) m m) :: env) (fun _ => H) (fun b => .blk b e vs :: L) :=
  ⟨fun a w hf hs K Q hK => by
    have hp := evOnes_evp hp'
    have hv : ∀ v ∈ vs, v.cells.toList = [v] := fun v hv => one1_cells (List.all_eq_true.1 hv' v hv)
    obtain ⟨dd, hu, hf'⟩ := (tyk_ok hk).und
    rw [hd] at hf'
    simp only [TyD.fits] at hf'
    subst hf'
    have hsm' := Nat.le_of_ble_eq_true hsm
    have hparts : parts.map (fun (p : Nat × Operand) => (p.1, a.eval p.2)) = (nums 0 vs).toArray := by
      apply Array.toList_inj.1
      simpa using hf.evp hp
    unfold Oper.wp
    have hfill : ∀ (zs : Array Value), zs.size = m → Instr.fill (fun i => some (i, 1)) zs (nums 0 vs) = some vs.toArray := by
      intro zs hz
      have hz' : zs = zs.toList.toArray := by simp
      rw [hz']
      apply fill_eq
      rw [fill_ones vs 0 zs.toList [] hv (by simp [hz, hm]) (by simp)]
      simp
    have : (execOp a.eval ⟨some d, .buildSlice t m parts, ty, pos, after, g⟩).run P w = .ok (.value (.slice (some ⟨w.heap.size, 0, none⟩) m m)) (w.alloc (.cells vs.toArray e)) := by
      unfold execOp
      simp only [Instr.buildSlice, Sem.run_bind, run_underlying hu, Result.andThen_ok, (tyk_ok hke).sizeOf w, h1, Nat.mul_one, hparts]
      rw [if_neg (by omega)]
      by_cases h0 : m = 0
      · rw [if_pos h0]
        simp only [Sem.run_bind, Sem.run_pure, Result.andThen_ok]
        have := hfill ((Array.range m).map (fun x => (#[] : Array Value)[x % (#[] : Array Value).size]!)) (by simp)
        rw [this]
        simp [newRow, newObj]
        rfl
      · rw [if_neg h0]
        simp only [Sem.run_bind, (tyk_ok hke).zeroRun w, Result.andThen_ok, Sem.run_pure]
        have := hfill ((Array.range m).map (fun x => ke.zero.cells[x % ke.zero.cells.size]!)) (by simp)
        rw [this]
        simp [newRow, newObj]
        rfl
    rw [this]
    exact hK _ _ _ trivial (fun _ => (Below.refl _ _).alloc (Nat.le_refl _) _) (hf.put hn _) (hs.blk e vs)⟩
end
end Go.Proofs.YthabgdbhgcgemaaGreatDoor
namespace Go.Proofs.YthabgdbhgcgemaaGreatDoor
set_option linter.unusedVariables false
set_option linter.unusedSimpArgs false
open Go Go.RowKit
open Enc (enc)
section
variable {P : Program} {n : FK} {w0 : World} {H0 H : Hp} {Q : Exit → Act → World → Prop} {env : List (Nat × Value)} {L : List Loc} {ops rest : List Oper}
theorem St.putObj {w : World} (hs : St w0 H0 H L w) {i l : Nat} {o : Obj} (o' : Obj) (hi : L[i]? = some (.any l o)) : St w0 H0 H (L.set i (.any l o')) (w.putObj l o') := by
  have h := hs.ok _ (List.mem_of_getElem? hi)
  have hlt : l < w.heap.size := (Array.getElem?_eq_some_iff.1 h.2).1
  exact hs.set hi rfl rfl (fun k hk => World.putObj_heap_other hk) World.putObj_size rfl rfl rfl (Nat.le_refl _) ⟨h.1, World.putObj_heap_same hlt⟩
def recd (fn : FuncId) (tmps : Array Value) (ps : Array Tmp) (assign body : Code) (b : Nat) (st : LoopState) (pe : Option Code) : Loop :=
  { state := st, pending := pe, fn := fn, tmps := tmps, params := ps, assign := assign, body := body, defers := b }
def jumpOf : Exit → Option Code
  | .ret => some .ret
  | .exit id => some (.exit id)
  | _ => none
def Exit.fine : Exit → Prop
  | .normal | .ret | .exit _ => True
  | _ => False
theorem T.rangeFunc {m : Nat} {gop : Operand} {ps : Array Tmp} {assign body : Code} {f : FuncId} {first cap : Array Value} {G : Type} (ex : G → Exit) (HH : G → Hp) (LL : G → List Loc) (φ : G → Prop)
    (hg : ev env gop = some (.func (.func f) first cap)) (hcall : ∀ (args : Array Value) (w : World), (callFunc f args).run P w = .ok (.enter f args) w) (hex : ∀ g, φ g → Exit.fine (ex g))
    (hit : ∀ (fn : FuncId) (a : Act) (b : Nat), Fr ⟨m, [], none⟩ env a → ∀ w, St w0 H0 H (.any (b + 1) (.loop (recd fn a.tmps ps assign body b .ready none)) :: .any b (.deferred (some [])) :: L) w →
      CallsIn (FW none) 0 P f (first ++ #[.func (.yield (b + 1)) #[] #[]] ++ cap) w (fun e w' => ∃ g v st, e = .returned v ∧ φ g ∧ st ≠ .busy ∧ St w0 H0 (HH g) (.any (b + 1) (.loop (recd fn a.tmps ps assign body b st (jumpOf (ex g)))) :: .any b (.deferred (some [])) :: LL g) w'))
    (hn : ∀ b g, φ g → N ⟨m, [{ target := .collected b, args := #[] }], none⟩ w0 H0 Q (ex g) env (HH g) (.any b (.deferred (some [])) :: LL g)) :
    T P ⟨m, [], none⟩ w0 H0 (.rangeFunc gop ps assign body) Q env H L := by
  refine ⟨fun a w hf hs => wpIn_rangeFunc fun fn _ => ?_⟩
  have hga := hf.ev hg
  obtain ⟨W1, hW1⟩ : ∃ W1, W1 = (w.alloc (.deferred (some []))).alloc (.loop (recd fn a.tmps ps assign body w.heap.size .ready none)) := ⟨_, rfl⟩
  refine ⟨w.heap.size + 1, [{ target := .collected w.heap.size, args := #[] }], W1, { target := .fn (.func f) cap, args := first ++ #[.func (.yield (w.heap.size + 1)) #[] #[]] }, W1, f, first ++ #[.func (.yield (w.heap.size + 1)) #[] #[]] ++ cap, W1, by rw [hW1]; exact run_enterLoop_outer _ _ _ _ _, ?_, fun _ _ => trivial, ?_, fun h => by simp [FW, Fence.wide] at h, ?_⟩
  · simp only [resolve, hga]
    simp [Deferred.ofValue, Act.eval]
  · simp [invoke, hcall]
  · have h1 := hs.alloc (e := .any w.heap.size (.deferred (some []))) (o := .deferred (some [])) rfl ⟨hs.below.size, World.alloc_heap_new _ _⟩
    have h2 := h1.alloc (e := .any (w.heap.size + 1) (.loop (recd fn a.tmps ps assign body w.heap.size .ready none))) (o := .loop (recd fn a.tmps ps assign body w.heap.size .ready none)) (by simp [Loc.at]) ⟨Nat.le_trans hs.below.size (Nat.le_succ _), by
      have := World.alloc_heap_new (w.alloc (.deferred (some []))) (.loop (recd fn a.tmps ps assign body w.heap.size .ready none))
      rwa [World.size_alloc] at this⟩
    rw [← hW1] at h2
    refine (hit fn a w.heap.size hf _ h2).mono ?_
    rintro e w' ⟨g, v, st, rfl, hφ, hst, hw⟩
    have hrec := (hw.ok _ (List.Mem.head _)).2
    have hw' := hw.putObj (i := 0) (.loop (recd fn a.tmps ps assign body w.heap.size .exhausted (jumpOf (ex g)))) rfl
    have hfr : Fr ⟨m, [{ target := .collected w.heap.size, args := #[] }], none⟩ env { a with defers := [{ target := .collected w.heap.size, args := #[] }] ++ a.defers } :=
      ⟨by simp [hf.defers], hf.size, hf.vals⟩
    have hN := (hn w.heap.size g hφ).out _ _ hfr (hw'.sub (List.sublist_cons_self _ _))
    refine ⟨jumpOf (ex g), _, run_endLoop hrec (by simpa [recd] using hst), ?_⟩
    have hx := hex g hφ
    cases hxe : ex g with
    | normal => simp only [jumpOf]; simp only [hxe] at hN; exact hN
    | ret => simp only [jumpOf]; simp only [hxe] at hN; exact wpIn_ret hN
    | exit id => simp only [jumpOf]; simp only [hxe] at hN; exact wpIn_exit hN
    | goto l => rw [hxe] at hx; exact hx.elim
    | panic c => rw [hxe] at hx; exact hx.elim
    | outgrown => rw [hxe] at hx; exact hx.elim
theorem TL.yield {d : Nat} {x : Operand} {args : Array Operand} {tys : Array TypeId} {ty : TypeId} {pos : String} {after : Array Edge} {g : Option (Nat × Bool)} {rl : Nat} {vs : List Value} {G : Type} {φ : Bool → G → Prop} {HH : G → Hp} {LL : G → List Loc} (hn : Nat.blt d n.n = true)
    (hw : want ops env ⟨some d, .call { callee := .value x, args := args, argTypes := tys }, ty, pos, after, g⟩ = some true) (hx : ev env x = some (.func (.yield rl) #[] #[])) (hargs : evs env args.toList = some vs)
    (hy : ∀ w, St w0 H0 H L w → YieldAt (FW n.r) 0 P rl vs.toArray w (fun e w' => ∃ b g, e = .returned (.bool b) ∧ φ b g ∧ St w0 H0 (HH g) (LL g) w'))
    (h : ∀ b g, φ b g → TL P n w0 H0 ops Q rest ((d, .bool b) :: env) (HH g) (LL g)) :
    TL P n w0 H0 ops Q (⟨some d, .call { callee := .value x, args := args, argTypes := tys }, ty, pos, after, g⟩ :: rest) env H L :=
  TL.opIn hw fun a w hf hs => by
    refine ⟨fun _ _ => trivial, ?_⟩
    obtain ⟨fn, tmps, assign, body, hrun, hround⟩ := hy w hs
    have ha : args.map a.eval = vs.toArray := by apply Array.toList_inj.1; simpa using hf.evs hargs
    have : (execOp a.eval ⟨some d, .call { callee := .value x, args := args, argTypes := tys }, ty, pos, after, g⟩).run P w = .ok (.round rl fn tmps assign body) w := by
      unfold execOp
      simp [resolve, hf.ev hx, Deferred.ofValue, invoke, ha, hrun]
    rw [Oper.semAt_eq _ _ _ (nd_ne rfl), this]
    refine ⟨fun h => by simp [FW, Fence.wide] at h, hround.mono ?_⟩
    rintro e w' ⟨b, g', rfl, hφ, hs'⟩
    exact (h b g' hφ).out _ _ (hf.put hn _) hs'
theorem yieldAt_of {m : Nat} {fn : FuncId} {a : Act} {ps : Array Tmp} {assign body : Code} {b i : Nat} {vs : Array Value} {w : World} {R : Ending → World → Prop} (hs : St w0 H0 H L w) (hi : L[i]? = some (.any (b + 1) (.loop (recd fn a.tmps ps assign body b .ready none)))) (hsz : vs.size = ps.size)
    (env₀ : List (Nat × Value)) (hE : ∀ tmps : Array Value, tmps = (ps.zip vs).foldl (fun t (p, v) => t.setIfInBounds p v) a.tmps → Fr ⟨m, [], some (b + 1)⟩ env₀ { tmps := tmps, defers := [] }) {env₁ : List (Nat × Value)}
    (hassign : T P ⟨m, [], some (b + 1)⟩ w0 H0 assign (Exit.then (fun a w => Fr ⟨m, [], some (b + 1)⟩ env₁ a ∧ St w0 H0 H L w) (fun _ _ _ => False)) env₀ H L)
    (hbody : T P ⟨m, [], some (b + 1)⟩ w0 H0 body (roundPost P (b + 1) R) env₁ H (L.set i (.any (b + 1) (.loop (recd fn a.tmps ps assign body b .busy none))))) : YieldAt (FW none) 0 P (b + 1) vs w R := by
  have hrec := (hs.ok _ (List.mem_of_getElem? hi)).2
  have hy := run_yield (P := P) (args := vs) hrec (by simpa [recd] using hsz)
  refine ⟨fn, _, assign, body, hy, roundIn_of_wpIn trivial (wpIn_mono (hassign.out _ w (hE _ rfl) hs) ?_)⟩
  rintro e a₁ w₁ hq
  cases e with
  | normal =>
    obtain ⟨hf1, hs1⟩ := hq
    have hrec1 := (hs1.ok _ (List.mem_of_getElem? hi)).2
    refine ⟨_, run_beginRound hrec1 rfl, hbody.out _ _ hf1 ?_⟩
    exact hs1.putObj (.loop (recd fn a.tmps ps assign body b .busy none)) hi
  | exit id => exact hq
  | goto l => exact hq
  | ret => exact hq
  | panic c => exact hq
  | outgrown => exact hq
theorem N.both {kk : FK} {env₁ : List (Nat × Value)} {Q' : Exit → Act → World → Prop} (h : Sub env₁ env) : N kk w0 H0 (Exit.then (fun a w => Fr kk env₁ a ∧ St w0 H0 H L w) Q') .normal env H L := ⟨fun _ _ hf hs => ⟨hf.sub h, hs⟩⟩
theorem Fr.round1 {m p : Nat} {r : Option Nat} {a : Act} {v : Value} (hf : Fr ⟨m, [], none⟩ env a) (hp : Nat.blt p m = true) : ∀ tmps : Array Value, tmps = ((#[p] : Array Tmp).zip #[v]).foldl (fun t (p, v) => t.setIfInBounds p v) a.tmps → Fr ⟨m, [], r⟩ ((p, v) :: env) { tmps := tmps, defers := [] } := by
  intro tmps ht
  have h := Fr.put (n := ⟨m, [], none⟩) hf (d := p) hp v
  refine ⟨rfl, ?_, fun t u htu => ?_⟩
  · rw [ht]; simp [hf.size]
  · rw [ht]; have := h.vals t u htu; simpa [Act.put] using this
theorem N.round_out {fn : FuncId} {tmps : Array Value} {ps : Array Tmp} {assign body : Code} {b i : Nat} {R : Ending → World → Prop} {e : Exit} {kk : FK} (he : Exit.fine e) (hi : L[i]? = some (.any (b + 1) (.loop (recd fn tmps ps assign body b .busy none))))
    (h : ∀ w, St w0 H0 H (L.set i (.any (b + 1) (.loop (recd fn tmps ps assign body b (if (jumpOf e).isNone then .ready else .done) (jumpOf e))))) w → R (.returned (.bool (jumpOf e).isNone)) w) : N kk w0 H0 (roundPost P (b + 1) R) e env H L :=
  ⟨fun a w _ hs => by
    have hrec := (hs.ok _ (List.mem_of_getElem? hi)).2
    have fin := fun (j : Option Code) => run_endRound (P := P) j hrec
    have hput := fun (j : Option Code) => hs.putObj (.loop (recd fn tmps ps assign body b (if j.isNone then .ready else .done) j)) hi
    cases e with
    | normal => exact ⟨_, _, fin none, h _ (hput none)⟩
    | ret => exact ⟨_, _, fin (some .ret), h _ (hput (some .ret))⟩
    | exit id => exact ⟨_, _, fin (some (.exit id)), h _ (hput (some (.exit id)))⟩
    | goto l => exact he.elim
    | panic c => exact he.elim
    | outgrown => exact he.elim⟩
theorem T.enterIn {f : FuncId} {fn : Func} {c : Code} {vs : List Value} {w : World} {R : Ending → World → Prop} (hf : P.funcs[f]? = some fn) (hb : fn.body = some c) {m : Nat} (hn : fn.ntmps = m) (hl : Nat.ble vs.length m = true) (hs : St w0 H0 H L w)
    (h : T P ⟨m, [], none⟩ w0 H0 c (bodyPost P fn R) (argEnv 0 vs) H L) : CallsIn (FW none) 0 P f vs.toArray w R := by
  refine callsIn_of_wp hf hb trivial (h.out _ w ⟨rfl, ?_, fun t v hv => ?_⟩ hs)
  · have := Nat.le_of_ble_eq_true hl
    simp [hn]; omega
  · obtain ⟨_, h2⟩ := look_argEnv vs 0 t v hv
    rw [Nat.sub_zero] at h2
    have hlt : t < vs.length := (List.getElem?_eq_some_iff.1 h2).1
    rw [Array.getElem?_append_left (by simpa using hlt)]
    simpa using h2
theorem T.enterM {f : FuncId} {fn : Func} {c : Code} {vs : List Value} {w : World} {R : Ending → World → Prop} (hf : P.funcs[f]? = some fn) (hb : fn.body = some c) {m : Nat} (hn : fn.ntmps = m) (hl : Nat.ble vs.length m = true) (hs : Sat H w)
    (h : T P ⟨m, [], none⟩ w H c (bodyPostM (FW none) 0 P fn R) (argEnv 0 vs) H []) : Calls P f vs.toArray w R := by
  refine callsFW' (r := none) (callsIn_of_wp_marks hf hb trivial (h.out _ w ⟨rfl, ?_, fun t v hv => ?_⟩ (St.start w H hs)))
  · have := Nat.le_of_ble_eq_true hl
    simp [hn]; omega
  · obtain ⟨_, h2⟩ := look_argEnv vs 0 t v hv
    rw [Nat.sub_zero] at h2
    have hlt : t < vs.length := (List.getElem?_eq_some_iff.1 h2).1
    rw [Array.getElem?_append_left (by simpa using hlt)]
    simpa using h2
theorem N.bare {m : Nat} {ro : Option Nat} {fn : Func} {R : Ending → World → Prop} (h : N ⟨m, [], ro⟩ w0 H0 (bodyPost P fn R) .ret env H L) : N ⟨m, [], ro⟩ w0 H0 (bodyPostM (FW none) 0 P fn R) .ret env H L :=
  ⟨fun a w hf hs => by
    obtain ⟨_, v, hr, hR⟩ := h.out a w hf hs
    show LeavesInM _ _ _ _ _ _ a.defers _ _
    rw [hf.defers]
    exact ⟨v, hr, hR⟩⟩
theorem N.marked {m b i : Nat} {ro : Option Nat} {fn : Func} {R : Ending → World → Prop} (hi : L[i]? = some (.any b (.deferred (some []))))
    (h : N ⟨m, [], ro⟩ w0 H0 (bodyPost P fn R) .ret env H (L.set i (.any b (.deferred none)))) : N ⟨m, [{ target := .collected b, args := #[] }], ro⟩ w0 H0 (bodyPostM (FW none) 0 P fn R) .ret env H L :=
  ⟨fun a w hf hs => by
    have hd := (hs.ok _ (List.mem_of_getElem? hi)).2
    obtain ⟨_, v, hr, hR⟩ := h.out { a with defers := [] } _ ⟨rfl, hf.size, hf.vals⟩ (hs.putObj (.deferred none) hi)
    show LeavesInM _ _ _ _ _ _ a.defers _ _
    rw [hf.defers]
    exact ⟨by simp, .inl ⟨b, _, rfl, run_takeDeferred hd, ⟨v, hr, hR⟩⟩⟩⟩
end
end Go.Proofs.YthabgdbhgcgemaaGreatDoor
namespace Go.Proofs.YthabgdbhgcgemaaGreatDoor
set_option linter.unusedVariables false
set_option linter.unusedSimpArgs false
open Go Go.RowKit
open Enc (enc)
section
variable {P : Program} {n : FK} {w0 : World} {H0 H : Hp} {Q : Exit → Act → World → Prop} {env : List (Nat × Value)} {L : List Loc} {ops rest : List Oper}
theorem St.row_get {w : World} (hs : St w0 H0 H L w) {b m c size : Nat} {e : TypeId} {xs : List Value} (hm : Loc.row (.slice (some ⟨b, 0, none⟩) m c) e size m xs ∈ L) : ∃ cur : Array Value, w.heap[b]? = some (.cells cur e (0, 0)) ∧ w0.heap.size ≤ b ∧ xs.length = m * size ∧ m ≤ c ∧ c ≤ maxLen ∧ cur.size = c * size ∧ cur.toList.take (m * size) = xs := by
  obtain ⟨h1, h2 | ⟨g, cap, cur, he, h3, h4, h5, h6, h7, h8⟩⟩ := (show w.ownsRow w0.heap.size e size (.slice (some ⟨b, 0, none⟩) m c) m xs from hs.ok _ hm)
  · exact absurd h2.1 (by simp)
  · simp only [Value.slice.injEq, Option.some.injEq, Addr.mk.injEq, true_and, and_true] at he
    obtain ⟨rfl, rfl⟩ := he
    exact ⟨cur, h4, h3, h1, h5, h6, h7, h8⟩
theorem St.row_cell {w : World} (hs : St w0 H0 H L w) {b m c size : Nat} {e : TypeId} {xs : List Value} (hm : Loc.row (.slice (some ⟨b, 0, none⟩) m c) e size m xs ∈ L) {o : Nat} {v : Value} (hv : xs[o]? = some v) : w.cell? ⟨b, o, none⟩ = some v := by
  obtain ⟨cur, h1, _, h3, _, _, _, h7⟩ := hs.row_get hm
  have hlt := (List.getElem?_eq_some_iff.1 hv).1
  rw [← h7, List.getElem?_take, if_pos (by omega)] at hv
  unfold World.cell?
  simp [h1]
  simpa using hv
theorem V.load_own [Tys P] {t : TypeId} {x : Operand} {b o m c size : Nat} {e : TypeId} {xs : List Value} {k : TyK} {v : Value} (hk : tyk P t = some k) (ha : k.desc.agg = false) (hx : ev env x = some (.pointer (some ⟨b, o, none⟩))) (hm : Loc.row (.slice (some ⟨b, 0, none⟩) m c) e size m xs ∈ L) (hv : xs[o]? = some v) :
    V P n (St w0 H0 H L) env (.load t x) v :=
  ⟨fun op a w ho hf hs => by
    unfold execOp; rw [ho]; simp only [hf.ev hx, Sem.run_bind, run_load_cell hk ha (hs.row_cell hm hv)]; rfl⟩
theorem V.load_own_row [Tys P] {t : TypeId} {x : Operand} {b o m c size : Nat} {e : TypeId} {xs vs : List Value} {k : TyK} (hk : tyk P t = some k) (ha : k.desc.agg = true) (hx : ev env x = some (.pointer (some ⟨b, o, none⟩))) (hm : Loc.row (.slice (some ⟨b, 0, none⟩) m c) e size m xs ∈ L) (hv : (xs.drop o).take k.size = vs) (hl : vs.length = k.size) :
    V P n (St w0 H0 H L) env (.load t x) (.agg vs.toArray) :=
  ⟨fun op a w ho hf hs => by
    unfold execOp; rw [ho]
    have : (Instr.loadAt t (.pointer (some ⟨b, o, none⟩))).run P w = .ok (.agg vs.toArray) w := run_load_row hk ha hl fun j v hj => by
      refine hs.row_cell hm ?_
      rw [← hv, List.getElem?_take] at hj
      by_cases hjk : j < k.size
      · rw [if_pos hjk, List.getElem?_drop] at hj; exact hj
      · rw [if_neg hjk] at hj; cases hj
    simp only [hf.ev hx, Sem.run_bind, this]; rfl⟩
theorem V.len_row [Tys P] {t e : TypeId} {tys : Array TypeId} {x : Operand} {v : Value} {size m : Nat} {xs : List Value} {k : TyK} (ht : tys[0]? = some t) (hk : tyk P t = some k) (hd : k.desc = .slice e) (hx : ev env x = some v) (hm : Loc.row v e size m xs ∈ L) : V P n (St w0 H0 H L) env (.call { callee := .builtin .len, args := #[x], argTypes := tys }) (intV m) :=
  ⟨fun o a w ho hf hs => by
    have h2 := (show w.ownsRow w0.heap.size e size v m xs from hs.ok _ hm).2
    rcases h2 with ⟨rfl, rfl⟩ | ⟨g, cap, cur, rfl, _⟩
    · exact (V.len (S := fun _ => True) (n := n) ht hk hd hx).out o a w ho hf trivial
    · exact (V.len (S := fun _ => True) (n := n) ht hk hd hx).out o a w ho hf trivial⟩
theorem putCells_length : ∀ (vs cs : List Value) (o : Nat), (putCells cs o vs).length = cs.length
  | [], _, _ => rfl
  | v :: vs, cs, o => by rw [putCells, putCells_length vs]; simp
theorem putCells_take : ∀ (vs cs : List Value) (o k : Nat), o + vs.length ≤ k → (putCells cs o vs).take k = putCells (cs.take k) o vs
  | [], _, _, _, _ => rfl
  | v :: vs, cs, o, k, h => by
    simp only [List.length_cons] at h
    rw [putCells, putCells, putCells_take vs _ _ _ (by omega), List.take_set]
theorem St.storeRow {w : World} (hs : St w0 H0 H L w) {i b m c size o : Nat} {e : TypeId} {xs vs : List Value} (hi : L[i]? = some (.row (.slice (some ⟨b, 0, none⟩) m c) e size m xs)) (ho : o + vs.length ≤ m * size) : St w0 H0 H (L.set i (.row (.slice (some ⟨b, 0, none⟩) m c) e size m (putCells xs o vs))) (w.setCells b o vs) := by
  obtain ⟨cur, h1, h2, h3, h4, h5, h6, h7⟩ := hs.row_get (List.mem_of_getElem? hi)
  have key : ∀ (vs : List Value) (o : Nat) (w : World), (w.setCells b o vs).heap.size = w.heap.size ∧ (w.setCells b o vs).os = w.os ∧ (w.setCells b o vs).tape = w.tape ∧ (w.setCells b o vs).output = w.output := by
    intro vs
    induction vs with
    | nil => intro o w; exact ⟨rfl, rfl, rfl, rfl⟩
    | cons v vs ih =>
      intro o w
      rw [World.setCells]
      obtain ⟨h1, h2, h3, h4⟩ := ih (o + 1) (w.setCell ⟨b, o, none⟩ v)
      exact ⟨h1.trans (by simp [World.setCell]), h2, h3, h4⟩
  obtain ⟨k1, k2, k3, k4⟩ := key vs o w
  have hcs : w.heap[b]? = some (.cells cur.toList.toArray e (0, 0)) := by simpa using h1
  have hc : c * size = cur.toList.length := by simp [h6]
  have hmc : m * size ≤ c * size := Nat.mul_le_mul_right _ h4
  have hnew := setCells_blk b e vs o w cur.toList hcs (by omega)
  refine hs.set hi rfl rfl (fun k hk => heap_setCells b vs o w k hk) k1 k2 k3 k4 (setCells_drawn b vs o w) ?_
  refine ⟨by rw [putCells_length]; exact h3, .inr ⟨b, c, _, rfl, h2, hnew, h4, h5, by simp [putCells_length, h6], ?_⟩⟩
  rw [List.toList_toArray, putCells_take _ _ _ _ ho, h7]
theorem X.storeRow [Tys P] {t ty : TypeId} {p x : Operand} {pos : String} {after : Array Edge} {g : Option (Nat × Bool)} {b o m c size : Nat} {e : TypeId} {xs vs : List Value} {v : Value} {k : TyK} (i : Nat) (hk : tyk P t = some k)
    (hp : ev env p = some (.pointer (some ⟨b, o, none⟩))) (hx : ev env x = some v) (hi : L[i]? = some (.row (.slice (some ⟨b, 0, none⟩) m c) e size m xs)) (hv : v.cells = vs.toArray) (hl : vs.length = k.size) (h1 : vs.all (·.oneCell') = true) (ho : o + vs.length ≤ m * size) :
    X P n w0 H0 env H L ⟨none, .store t p x, ty, pos, after, g⟩ false (G := Unit) (fun _ => True) (fun _ => env) (fun _ => H) (fun _ => L.set i (.row (.slice (some ⟨b, 0, none⟩) m c) e size m (putCells xs o vs))) :=
  ⟨fun a w hf hs K Q hK => by
    unfold Oper.wp
    obtain ⟨cur, h1', h2, h3, h4, h5, h6, h7⟩ := hs.row_get (List.mem_of_getElem? hi)
    have hmc : m * size ≤ c * size := Nat.mul_le_mul_right _ h4
    have hrun := run_store_blk hk (w := w) (b := b) (o := o) (T := e) (cs := cur.toList) (vs := vs) (v := v) (by simpa using h1') hv hl h1 (by simp [h6]; omega)
    have : (execOp a.eval ⟨none, .store t p x, ty, pos, after, g⟩).run P w = .ok .skip (w.setCells b o vs) := by
      unfold execOp
      simp only [hf.ev hp, hf.ev hx, Sem.run_bind, hrun]
      rfl
    rw [this]
    exact hK () _ _ trivial (fun h => by cases h) (hf.put_none _) (hs.storeRow hi ho)⟩
theorem St.blkRow {w : World} (hs : St w0 H0 H L w) {i b m size : Nat} {e : TypeId} {cs : List Value} (hi : L[i]? = some (.blk b e cs)) (hl : cs.length = m * size) (hm : m ≤ maxLen) : St w0 H0 H (L.set i (.row (.slice (some ⟨b, 0, none⟩) m m) e size m cs)) w := by
  have hme := List.mem_of_getElem? hi
  have h := hs.ok _ hme
  have hlt : b < w.heap.size := (Array.getElem?_eq_some_iff.1 h.2).1
  refine hs.set (w' := w) hi rfl rfl (fun _ _ => rfl) rfl rfl rfl rfl (Nat.le_refl _) ?_
  exact ⟨hl, .inr ⟨b, m, cs.toArray, rfl, h.1, h.2, Nat.le_refl _, hm, by simp [hl], by simp [← hl]⟩⟩
theorem T.blkRow {c : Code} (i m size : Nat) {b : Nat} {e : TypeId} {cs : List Value} (hi : L[i]? = some (.blk b e cs)) (hl : cs.length = m * size) (hm : m ≤ maxLen) (h : T P n w0 H0 c Q env H (L.set i (.row (.slice (some ⟨b, 0, none⟩) m m) e size m cs))) : T P n w0 H0 c Q env H L :=
  ⟨fun a w hf hs => h.out a w hf (hs.blkRow hi hl hm)⟩
theorem X.append1 [Tys P] (i : Nat) {d : Nat} {t e ty : TypeId} {x y : Operand} {pos : String} {after : Array Edge} {g : Option (Nat × Bool)} {k ke : TyK} {v : Value} {m j c b : Nat} {xs news : List Value} {T' : TypeId} (hn : Nat.blt d n.n = true) (hk : tyk P t = some k) (hd : k.desc = .slice e) (hke : tyk P e = some ke) (h0 : Nat.beq ke.size 0 = false) (hz : Nat.beq ke.zero.cells.size ke.size = true)
    (hx : ev env x = some v) (hi : L[i]? = some (.row v e ke.size m xs)) (hy : ev env y = some (.slice (some ⟨b, 0, none⟩) j c)) (hm : Loc.blk b T' news ∈ L) (hl : news.length = j * ke.size) (h1 : news.all (·.oneCell') = true) (hj : Nat.beq j 0 = false) (hb : (m + j) * ke.bytes ≤ 140737488355328) (h63 : m + j ≤ 9223372036854775807) :
    X P n w0 H0 env H L ⟨some d, .call { callee := .builtin .append, args := #[x, y], argTypes := #[t, t] }, ty, pos, after, g⟩ false (G := Nat × Nat) (fun _ => True) (fun p => (d, .slice (some ⟨p.1, 0, none⟩) (m + j) p.2) :: env) (fun _ => H) (fun p => L.set i (.row (.slice (some ⟨p.1, 0, none⟩) (m + j) p.2) e ke.size (m + j) (xs ++ news))) :=
  ⟨fun a w hf hs K Q hK => by
    refine (X.append i (pos := pos) (after := after) (g := g) (ty := ty) hn hk hd hke h0 hz hx hi hy hm hl h1 hb h63).out a w hf hs K Q fun v' a' w' hv' hg hf' hs' => ?_
    have hj' : j ≠ 0 := fun e => by subst e; simp at hj
    have hlen : i < L.length := (List.getElem?_eq_some_iff.1 hi).1
    have hme : Loc.row v' e ke.size (m + j) (xs ++ news) ∈ L.set i (.row v' e ke.size (m + j) (xs ++ news)) := List.mem_of_getElem? (i := i) (by simp [hlen])
    rcases (show w'.ownsRow w0.heap.size e ke.size v' (m + j) (xs ++ news) from hs'.ok _ hme).2 with ⟨_, h0⟩ | ⟨g', cap, cur, rfl, _⟩
    · omega
    · exact hK (g', cap) a' w' trivial (fun h => by cases h) hf' hs'⟩
end
instance : Enc (List UInt8) where
  size := 1
  enc l := [strV l]
  good _ l := l.length ≤ 9223372036854775807
  len _ := rfl
  mono _ h := h
  one _ := rfl
  pos := by decide
end Go.Proofs.YthabgdbhgcgemaaGreatDoor
namespace Go.Proofs.YthabgdbhgcgemaaGreatDoor
set_option linter.unusedVariables false
set_option linter.unusedSimpArgs false
open Go Go.RowKit
open Enc (enc)
section
variable {P : Program} {n : FK} {w0 w w' : World} {H0 H H' : Hp} {Q : Exit → Act → World → Prop} {env : List (Nat × Value)} {L L' : List Loc} {ops rest : List Oper}
theorem Loc.ok.base {base base' : Nat} (hb : base ≤ base') {e : Loc} (h : e.ok base' w) : e.ok base w := by
  cases e with
  | blk b T cs => exact ⟨Nat.le_trans hb h.1, h.2⟩
  | row v e size n xs =>
    refine ⟨h.1, ?_⟩
    rcases h.2 with h2 | ⟨g, cap, cur, hv, hg, r⟩
    · exact .inl h2
    · exact .inr ⟨g, cap, cur, hv, Nat.le_trans hb hg, r⟩
  | any b o => exact ⟨Nat.le_trans hb h.1, h.2⟩
theorem St.callO (h : St w0 H0 H L w) (hf : St w H H' L' w') : St w0 H0 H' (L' ++ L) w' := by
  have hc := h.call hf.fresh
  refine ⟨hc.below, hc.sat, hc.le, hc.new, fun e he => ?_, fun e he => ?_, ?_⟩
  · rcases List.mem_append.1 he with he | he
    · exact (hf.ok e he).base h.below.size
    · exact hc.ok e he
  · rcases List.mem_append.1 he with he | he
    · exact hf.out e he
    · exact hc.out e he
  · refine List.pairwise_append.2 ⟨hf.apart, h.apart, fun e he f hf' b hb hb' => ?_⟩
    have h1 := ((hf.ok e he).lt hb).2
    have h2 := ((h.ok f hf').lt hb').1
    omega
def RetO {G : Type} (w : World) (H : Hp) (φ : G → Prop) (v : G → Value) (H' : G → Hp) (LL : G → List Loc) : Ending → World → Prop := fun e w' => ∃ g, φ g ∧ e = .returned (v g) ∧ St w H (H' g) (LL g) w'
theorem X.callO {G : Type} {φ : G → Prop} {v : G → Value} {H' : G → Hp} {LL : G → List Loc} {d : Nat} {x : Operand} {args : Array Operand} {tys : Array TypeId} {ty : TypeId} {pos : String} {after : Array Edge} {g : Option (Nat × Bool)} {f : FuncId} {first cap : Array Value} {vs : List Value} (hn : Nat.blt d n.n = true)
    (hx : ev env x = some (.func (.func f) first cap)) (hargs : evs env args.toList = some vs)
    (hcall : ∀ (args : Array Value) (w : World), (callFunc f args).run P w = .ok (.enter f args) w)
    (hc : ∀ w, St w0 H0 H L w → Calls P f (first ++ vs.toArray ++ cap) w (RetO w H φ v H' LL)) :
    X P n w0 H0 env H L ⟨some d, .call { callee := .value x, args := args, argTypes := tys }, ty, pos, after, g⟩ true (fun g => φ g ∧ H.le (H' g)) (fun g => (d, v g) :: env) H' (fun g => LL g ++ L) :=
  ⟨fun a w hf hs K Q hK => by
    unfold Oper.wp
    rw [run_call rfl (hf.ev hx) (hf.evs hargs) hcall]
    refine Calls.mono (hc w hs) fun e w' ⟨g, hg, he, hb⟩ => ?_
    subst he
    exact hK g _ _ ⟨hg, hb.le⟩ (fun _ => hb.below) (hf.put hn _) (hs.callO hb)⟩
theorem X.callO0 {G : Type} {φ : G → Prop} {v : G → Value} {H' : G → Hp} {LL : G → List Loc} {d : Nat} {f : FuncId} {args : Array Operand} {tys : Array TypeId} {ty : TypeId} {pos : String} {after : Array Edge} {g : Option (Nat × Bool)} {vs : List Value}
    (hcall : ∀ (args : Array Value) (w : World), (callFunc f args).run P w = .ok (.enter f args) w) (hn : Nat.blt d n.n = true)
    (hargs : evs env args.toList = some vs) (hc : ∀ w, St w0 H0 H L w → Calls P f vs.toArray w (RetO w H φ v H' LL)) :
    X P n w0 H0 env H L ⟨some d, .call { callee := .value (.func f), args := args, argTypes := tys }, ty, pos, after, g⟩ true (fun g => φ g ∧ H.le (H' g)) (fun g => (d, v g) :: env) H' (fun g => LL g ++ L) :=
  X.callO hn (by rfl) hargs hcall (fun w hs => by simpa using hc w hs)
theorem X.callS {G : Type} {φ : G → Prop} {v : G → Value} {HH : G → Hp} {LL : G → List Loc} {d : Nat} {x : Operand} {args : Array Operand} {tys : Array TypeId} {ty : TypeId} {pos : String} {after : Array Edge} {g : Option (Nat × Bool)} {f : FuncId} {first cap : Array Value} {vs : List Value} (hn : Nat.blt d n.n = true)
    (hx : ev env x = some (.func (.func f) first cap)) (hargs : evs env args.toList = some vs)
    (hcall : ∀ (args : Array Value) (w : World), (callFunc f args).run P w = .ok (.enter f args) w)
    (hc : ∀ w, St w0 H0 H L w → CallsIn (FW none) 0 P f (first ++ vs.toArray ++ cap) w (fun e w' => ∃ g, φ g ∧ e = .returned (v g) ∧ St w0 H0 (HH g) (LL g) w')) :
    X P n w0 H0 env H L ⟨some d, .call { callee := .value x, args := args, argTypes := tys }, ty, pos, after, g⟩ false φ (fun g => (d, v g) :: env) HH LL :=
  ⟨fun a w hf hs K Q hK => by
    unfold Oper.wp
    rw [run_call rfl (hf.ev hx) (hf.evs hargs) hcall]
    refine Calls.mono (callsFW' (hc w hs)) fun e w' ⟨g, hg, he, hb⟩ => ?_
    subst he
    exact hK g _ _ hg (fun h => by cases h) (hf.put hn _) hb⟩
end
end Go.Proofs.YthabgdbhgcgemaaGreatDoor
