/-
  The engine, regions that draw their order: operations that only read (or call what only makes memory of its own) are taken in whatever order they come; what is left is branched over.
-/
import Derived.Test.YtfbhcemlnojejaaDoorEngV
namespace Go.Proofs.YtfbhcemlnojejaaDoor
set_option linter.unusedVariables false
set_option linter.unusedSimpArgs false
open Go Go.RowKit

section
variable {P : Program} {ops : Array Oper} {K : Act → World → Prop} {S : Nat → World → Prop}
/-- Only the end of the region counts. -/
def Norm (K : Act → World → Prop) : Exit → Act → World → Prop := fun e a w => e = .normal ∧ K a w
/-- i is behind k, by the edges. -/
def anc (ops : Array Oper) : Nat → Nat → Nat → Bool
  | 0, _, _ => false
  | fuel + 1, k, i =>
    match ops[k]? with
    | none => false
    | some o => o.after.toList.any fun e => Region.binds .any e && (Nat.beq e.on i || anc ops fuel e.on i)
def Closed (ops : Array Oper) (listed : Array Bool) : Prop :=
  ∀ k o, listed.getD k false = true → ops[k]? = some o → ∀ e ∈ o.after, Region.binds .any e = true → listed.getD e.on false = true
theorem closed_none (ops : Array Oper) (n : Nat) : Closed ops (Array.replicate n false) := fun k o h => by
  simp [Array.getElem?_replicate] at h
  split at h <;> simp at h
theorem closed_set {listed : Array Bool} (h : Closed ops listed) {k : Nat} (hk : k ∈ Region.ready .any ops listed) : Closed ops (listed.setIfInBounds k true) := by
  intro j o hj ho e he hb
  by_cases hjk : k = j
  · subst hjk
    obtain ⟨_, o', ho', hall⟩ := mem_ready.1 hk
    rw [ho'] at ho
    cases ho
    exact getD_set_true (hall e he hb)
  · rw [getD_set_ne false hjk] at hj
    exact getD_set_true (h j o hj ho e he hb)
theorem anc_listed {listed : Array Bool} (h : Closed ops listed) : ∀ (fuel k i : Nat), (∀ o, ops[k]? = some o → ∀ e ∈ o.after, Region.binds .any e = true → listed.getD e.on false = true) → anc ops fuel k i = true → listed.getD i false = true
  | 0, _, _, _, h => by simp [anc] at h
  | fuel + 1, k, i, hk, ha => by
    unfold anc at ha
    cases ho : ops[k]? with
    | none => rw [ho] at ha; simp at ha
    | some o =>
      rw [ho] at ha
      simp only [List.any_eq_true, Bool.and_eq_true, Bool.or_eq_true] at ha
      obtain ⟨e, he, hb, hh⟩ := ha
      have he' : e ∈ o.after := by simpa using he
      have hl := hk o ho e he' hb
      rcases hh with hh | hh
      · rw [Nat.eq_of_beq_eq_true hh] at hl; exact hl
      · exact anc_listed h fuel e.on i (fun o' ho' e' he'' hb' => h e.on o' hl ho' e' he'' hb') hh
/-- It yields v, and nothing that was there turns. -/
def Quiet (P : Program) (ops : Array Oper) (Sw : World → Prop) (o : Oper) (v : Value) (a : Act) : Prop :=
  (Region.wanted o (yielded ops a.tmps) = true ∧ ∀ w, Sw w → o.quietAt P a (fun w' => Below w.heap.size w w') w v) ∨
  (Region.wanted o (yielded ops a.tmps) = false ∧ v = undef)
theorem Quiet.of_same {Sw : World → Prop} {o : Oper} {v : Value} {a a' : Act} (hy : Quiet P ops Sw o v a) (he : execOp a'.eval o = execOp a.eval o)
    (hw : Region.wanted o (yielded ops a'.tmps) = Region.wanted o (yielded ops a.tmps)) : Quiet P ops Sw o v a' := by
  unfold Quiet Oper.quietAt at *
  rw [he, hw]
  exact hy
theorem Quiet.wpOp {i : Nat} {o : Oper} {v : Value} {a : Act} {Sw : World → Prop} (hi : ops[i]? = some o) (hy : Quiet P ops Sw o v a)
    {K' : Act → World → Prop} {Q : Exit → Act → World → Prop} {w : World} (hS : Sw w) (h : ∀ w', Below w.heap.size w w' → K' (a.put o.dst v) w') : wpOp P ops Q i K' a w := by
  unfold Go.wpOp
  simp only [hi]
  rcases hy with ⟨hw, hv⟩ | ⟨hw, rfl⟩
  · rw [hw, if_pos rfl]
    refine .inl ?_
    have h3 := hv w hS
    unfold Oper.quietAt at h3
    unfold Oper.wp
    generalize (execOp a.eval o).run P w = r at *
    cases r with
    | ok n w' =>
      cases n <;> simp only [Oper.quietUpon] at h3 <;> simp only [Oper.upon]
      case value u =>
        obtain ⟨e1, e2⟩ := h3
        rw [e1, e2]
        exact h _ (Below.refl _ _)
      case skip =>
        obtain ⟨e1, e2⟩ := h3
        rw [e1, ← e2]
        exact h _ (Below.refl _ _)
      case enter f args =>
        obtain ⟨e1, hc⟩ := h3
        rw [e1]
        exact hc.mono fun e w'' ⟨he, hw''⟩ => by subst he; exact h _ hw''
    | halt x w' => simp only [Oper.quietUpon] at h3
  · rw [hw, if_neg (by simp)]
    exact h _ (Below.refl _ _)
theorem wpOp_putQ {j : Nat} {oi oj : Oper} {v : Value} {Sw : World → Prop} (hj : ops[j]? = some oj) (hap : oi.apart ops oj = true)
    (hsi : ∀ cs b, oi.op ≠ .select cs b) (hsj : ∀ cs b, oj.op ≠ .select cs b) {K' : Act → World → Prop} {a : Act} {w : World}
    (hy : Quiet P ops Sw oi v a) (h : wpOp P ops (Norm K) j K' (a.put oi.dst v) w) :
    wpOp P ops (Norm K) j (fun a' w' => Quiet P ops Sw oi v a' ∧ K' (a'.put oi.dst v) w') a w := by
  obtain ⟨h1, h2, h3⟩ := Oper.apart_spec hap
  have keep : ∀ (a : Act), Quiet P ops Sw oi v a → ∀ u, Quiet P ops Sw oi v (a.put oj.dst u) := fun a hy u =>
    hy.of_same (execOp_put oi hsi a oj.dst u h3) (wanted_put oi a oj.dst u h3)
  have keepD : ∀ d, Quiet P ops Sw oi v { a with defers := d :: a.defers } := fun d => hy.of_same rfl rfl
  unfold wpOp at *
  simp only [hj] at *
  rw [wanted_put oj a oi.dst v h1] at h
  split
  · rename_i hw
    simp only [hw, if_true] at h
    rcases h with h | ⟨_, _, _, hlets, _⟩
    case inr => cases hlets
    refine .inl ?_
    unfold Oper.wp at *
    rw [execOp_put oj hsj a oi.dst v h1] at h
    generalize (execOp a.eval oj).run P w = r at *
    cases r with
    | ok n w' =>
      cases n <;> simp only [Oper.upon] at h ⊢
      case value u => exact ⟨keep a hy u, by rw [← Act.put_comm a v u h2]; exact h⟩
      case skip => exact ⟨keep a hy _, by rw [← Act.put_comm a v undef h2]; exact h⟩
      case defer d =>
        refine ⟨keep _ (keepD d) _, ?_⟩
        rw [← Act.put_comm _ v undef h2, ← Act.put_defers]
        exact h
      case enter f args =>
        refine Calls.mono h fun e w'' he => ?_
        cases e with
        | returned u => exact ⟨keep a hy u, by rw [← Act.put_comm a v u h2]; exact he⟩
        | panicked c => exact absurd he.1 (by simp)
        | outgrown => exact he
      case row row args => exact Rows.mono h fun u w'' he => ⟨keep a hy u, by rw [← Act.put_comm a v u h2]; exact he⟩
    | halt x w' =>
      cases x <;> simp only [Oper.upon] at h ⊢
      case panic u => exact absurd h.1 (by simp)
  · rename_i hw
    simp only [hw] at h
    exact ⟨keep a hy _, by rw [← Act.put_comm a v undef h2]; exact h⟩
/-- Whatever order is picked from here on, in whatever world that has grown. -/
def G (P : Program) (ops : Array Oper) (K : Act → World → Prop) (S : Nat → World → Prop) : Nat → Array Bool → Act → World → Prop
  | 0, listed, a, w => ∀ w', Below w.heap.size w w' → Region.ready .any ops listed = [] ∧ K a w'
  | fuel + 1, listed, a, w => ∀ w', Below w.heap.size w w' →
    (Region.ready .any ops listed = [] → K a w') ∧
    ∀ k ∈ Region.ready .any ops listed, wpOp P ops (Norm K) k (fun a' w'' => (∀ i, listed.getD i false = true → anc ops ops.size k i = false → S i w' → S i w'') ∧ G P ops K S fuel (listed.setIfInBounds k true) a' w'') a w'
theorem Below.step {a b c : World} (h : Below a.heap.size a b) (k : Below b.heap.size b c) : Below a.heap.size a c := h.trans (k.mono h.size)
theorem G.grow : ∀ {fuel : Nat} {listed : Array Bool} {a : Act} {w w' : World}, G P ops K S fuel listed a w → Below w.heap.size w w' → G P ops K S fuel listed a w'
  | 0, _, _, _, _, h, hb => fun w'' hb' => h w'' (Below.step hb hb')
  | _ + 1, _, _, _, _, h, hb => fun w'' hb' => h w'' (Below.step hb hb')
theorem G.any : ∀ {fuel : Nat} {listed : Array Bool} {a : Act} {w : World}, G P ops K S fuel listed a w → wpAny P .any ops (Norm K) fuel listed a w
  | 0, _, _, w, h => ⟨(h w (Below.refl _ _)).1, rfl, (h w (Below.refl _ _)).2⟩
  | _ + 1, _, _, w, h => ⟨fun h0 => ⟨rfl, (h w (Below.refl _ _)).1 h0⟩, fun i hi => wpOp_mono (fun _ _ h' => h'.2.any) ((h w (Below.refl _ _)).2 i hi)⟩
/-- **A quiet operation may be taken first.** -/
theorem G.first (hst : ∀ i w w', S i w → Below w.heap.size w w' → S i w') {i : Nat} {oi : Oper} {v : Value} (hi : ops[i]? = some oi) (hsel : ∀ (j : Nat) (o : Oper) cs b, ops[j]? = some o → o.op ≠ .select cs b) :
    ∀ (fuel : Nat) (listed : Array Bool) (a : Act) (w : World), Closed ops listed →
      (∀ j oj, ops[j]? = some oj → j ≠ i → listed.getD j true = false → (∀ e ∈ oj.after, Region.binds .any e = true → e.on ≠ i) → oi.apart ops oj = true) →
      i ∈ Region.ready .any ops listed → Quiet P ops (S i) oi v a → S i w →
      G P ops K S fuel (listed.setIfInBounds i true) (a.put oi.dst v) w → G P ops K S (fuel + 1) listed a w := by
  intro fuel
  induction fuel with
  | zero =>
    intro listed a w hcl _ hr hy hS H w' hb
    refine ⟨fun h => (by rw [h] at hr; cases hr), fun j hj => ?_⟩
    by_cases hji : j = i
    · subst hji
      exact hy.wpOp hi (hst _ _ _ hS hb) fun w'' hb' => ⟨fun i' _ _ hs => hst _ _ _ hs hb', H.grow (Below.step hb hb')⟩
    · have := ready_mono hj hji
      rw [(H w' hb).1] at this
      cases this
  | succ fuel ih =>
    intro listed a w hcl hfree hr hy hS H w' hb
    refine ⟨fun h => (by rw [h] at hr; cases hr), fun j hj => ?_⟩
    by_cases hji : j = i
    · subst hji
      exact hy.wpOp hi (hst _ _ _ hS hb) fun w'' hb' => ⟨fun i' _ _ hs => hst _ _ _ hs hb', H.grow (Below.step hb hb')⟩
    · have h1 := (H w' hb).2 j (ready_mono hj hji)
      obtain ⟨hjun, oj, hoj, hall⟩ := mem_ready.1 hj
      have hli : listed.getD i true = false := (mem_ready.1 hr).1
      have hnot : ∀ e ∈ oj.after, Region.binds .any e = true → e.on ≠ i := fun e he hb heq => by
        have h1 := hall e he hb
        rw [heq] at h1
        rcases Nat.lt_or_ge i listed.size with h' | h'
        · simp [h'] at hli h1; rw [hli] at h1; cases h1
        · simp [Array.getElem?_eq_none h'] at h1
      have hlt : i < listed.size := by
        rcases Nat.lt_or_ge i listed.size with h' | h'
        · exact h'
        · simp [Array.getElem?_eq_none h'] at hli
      have hanc : anc ops ops.size j i = false := by
        cases ha : anc ops ops.size j i with
        | false => rfl
        | true =>
          have := anc_listed hcl ops.size j i (fun o ho e he hb => by rw [hoj] at ho; cases ho; exact hall e he hb) ha
          simp [hlt] at hli this
          rw [hli] at this; cases this
      have h2 := wpOp_putQ hoj (hfree j oj hoj hji hjun hnot) (fun cs b => hsel i oi cs b hi) (fun cs b => hsel j oj cs b hoj) hy h1
      have hfree' : ∀ k ok, ops[k]? = some ok → k ≠ i → (listed.setIfInBounds j true).getD k true = false →
          (∀ e ∈ ok.after, Region.binds .any e = true → e.on ≠ i) → oi.apart ops ok = true := fun k ok hk hki hun hno => by
        refine hfree k ok hk hki ?_ hno
        by_cases hjk : j = k
        · subst hjk; exact hjun
        · rw [getD_set_ne true hjk] at hun; exact hun
      refine wpOp_mono (fun a' w'' h3 => ⟨fun i' hl ha hs => ?_, ?_⟩) h2
      · exact h3.2.1 i' (getD_set_true hl) ha hs
      · refine ih (listed.setIfInBounds j true) a' w'' (closed_set hcl hj) hfree' (ready_mono hr (Ne.symm hji)) h3.1 (h3.2.1 i ?_ hanc (hst _ _ _ hS hb)) ?_
        · simp [hlt]
        · rw [Array.setIfInBounds_comm _ _ hji]
          exact h3.2.2
end

section
variable {P : Program} {n : FK} {w0 : World} {H0 H HS : Hp} {Q : Exit → Act → World → Prop} {env : List (Nat × Value)} {L LS : List Loc} {ops : List Oper} {K : Act → World → Prop} {k : Nat} {ex : List Nat} {fuel : Nat} {ok : Bool}
/-- It reads memory, or calls. -/
def mqAt (ops : List Oper) (i : Nat) : Bool :=
  match ops[i]? with
  | some ⟨_, .load _ _, _, _, _, _⟩ | some ⟨_, .lookup _ _ _ _, _, _, _, _⟩ | some ⟨_, .call { callee := .value _, args := _, argTypes := _ }, _, _, _, _⟩ => true
  | _ => false
/-- What has come up: all before number k, and those of 'ex'. -/
def marks (n k : Nat) (ex : List Nat) : Array Bool := ((List.range n).map fun i => Nat.blt i k || ex.any (Nat.beq i)).toArray
theorem marks_size (n k : Nat) (ex : List Nat) : (marks n k ex).size = n := by simp [marks]
theorem marks_get (n k : Nat) (ex : List Nat) (i : Nat) : (marks n k ex)[i]? = if i < n then some (Nat.blt i k || ex.any (Nat.beq i)) else none := by
  simp only [marks, List.getElem?_toArray, List.getElem?_map]
  by_cases h : i < n
  · rw [List.getElem?_range h]; simp [h]
  · rw [List.getElem?_eq_none (by simpa using h)]; simp [h]
theorem marks_none (n : Nat) : Array.replicate n false = marks n 0 [] := by
  apply Array.ext_getElem?
  intro i
  rw [marks_get, Array.getElem?_replicate]
  simp [Nat.blt, Nat.ble]
theorem marks_next (n k : Nat) (ex : List Nat) : (marks n k ex).setIfInBounds k true = marks n (k + 1) ex := by
  apply Array.ext_getElem?
  intro i
  rw [Array.getElem?_setIfInBounds, marks_get, marks_get, marks_size]
  by_cases h : k = i
  · subst h
    simp only [if_true]
    by_cases hn : k < n
    · simp [hn, Nat.blt]
    · simp [hn]
  · rw [if_neg h]
    by_cases hn : i < n
    · simp only [hn, if_true, Option.some.injEq]
      have : Nat.blt i k = Nat.blt i (k + 1) := by
        rw [Bool.eq_iff_iff, Nat.blt_eq, Nat.blt_eq]; omega
      rw [this]
    · simp [hn]
theorem marks_more (n k j : Nat) (ex : List Nat) : (marks n k ex).setIfInBounds j true = marks n k (j :: ex) := by
  apply Array.ext_getElem?
  intro i
  rw [Array.getElem?_setIfInBounds, marks_get, marks_get, marks_size]
  by_cases h : j = i
  · subst h
    simp only [if_true]
    by_cases hn : j < n
    · simp [hn]
    · simp [hn]
  · rw [if_neg h]
    by_cases hn : i < n
    · simp only [hn, if_true, Option.some.injEq, List.any_cons]
      rw [beq_no (s := i) (t := j) (fun e => h e.symm)]
      simp
    · simp [hn]
theorem marks_has (n k : Nat) (ex : List Nat) (h : ex.any (Nat.beq k) = true) : marks n k ex = marks n (k + 1) ex := by
  apply Array.ext_getElem?
  intro i
  rw [marks_get, marks_get]
  by_cases hn : i < n
  · simp only [hn, if_true, Option.some.injEq]
    by_cases hk : i = k
    · subst hk; rw [h]; simp
    · have : Nat.blt i k = Nat.blt i (k + 1) := by
        rw [Bool.eq_iff_iff, Nat.blt_eq, Nat.blt_eq]; omega
      rw [this]
  · simp [hn]
def SS (w0 : World) (H0 HS : Hp) (LS : List Loc) (ops : List Oper) (i : Nat) (w : World) : Prop := mqAt ops i = true → St w0 H0 HS LS w
theorem SS.grow : ∀ i w w', SS w0 H0 HS LS ops i w → Below w.heap.size w w' → SS w0 H0 HS LS ops i w' := fun _ _ _ h hb hm => (h hm).grow hb
theorem wpOp_bridge {r : Option Nat} {P : Program} {ops : Array Oper} {Q : Exit → Act → World → Prop} (hn : ∀ o ∈ ops, nd o = true) (hl : ¬ LetsOut Q) {i : Nat} {K K' : Act → World → Prop} (hK : ∀ a w, K a w → K' a w) {a : Act} {w : World} (h : wpOp P ops Q i K a w) : wpOpIn (FW r) 0 P ops Q i K' a w := by
  unfold wpOp at h
  unfold wpOpIn
  cases hi : ops[i]? with
  | none => rw [hi] at h; exact hK _ _ h
  | some o =>
    rw [hi] at h
    simp only at h ⊢
    split
    · rename_i hw
      rw [if_pos hw] at h
      rcases h with h | ⟨_, hlets⟩
      · exact Oper.wpIn_mono hK (bridge (hn o (Array.mem_of_getElem? hi)) h)
      · exact absurd hlets hl
    · rename_i hw
      rw [if_neg hw] at h
      exact ⟨fun _ _ => trivial, hK _ _ h⟩
theorem any_bridge {r : Option Nat} {P : Program} {ops : Array Oper} {K : Act → World → Prop} (hn : ∀ o ∈ ops, nd o = true) : ∀ {fuel : Nat} {listed : Array Bool} {a : Act} {w : World}, wpAny P .any ops (Norm K) fuel listed a w → wpAnyIn (FW r) 0 P .any ops (Norm K) fuel listed a w
  | 0, _, _, _, h => h
  | _ + 1, _, _, _, h => ⟨h.1, fun i hi => wpOp_bridge hn (fun ⟨_, _, h⟩ => by cases h.1) (fun _ _ h => any_bridge hn h) (h.2 i hi)⟩
structure GT (P : Program) (n : FK) (w0 : World) (H0 : Hp) (ops : List Oper) (K : Act → World → Prop) (HS : Hp) (LS : List Loc) (ok : Bool) (fuel : Nat) (k : Nat) (ex : List Nat) (env : List (Nat × Value)) (H : Hp) (L : List Loc) : Prop where
  out : Closed ops.toArray (marks ops.length k ex) → ∀ a w, Fr n env a → St w0 H0 H L w → (ok = true → St w0 H0 HS LS w) → G P ops.toArray K (SS w0 H0 HS LS ops) fuel (marks ops.length k ex) a w
theorem T.regionD {id : Nat} (hm : P.follows .mixedOrders = true) (hnd : ops.all nd = true) (h : GT P n w0 H0 ops (fun a w => Q .normal a w) H L true ops.length 0 [] env H L) : T P n w0 H0 (.region id ops.toArray true) Q env H L :=
  ⟨fun a w hf hs => by
    have hd : St w0 H0 H L { w with drawn := w.drawn + 1 } := hs.drew
    have h1 := (h.out (by rw [← marks_none]; exact closed_none _ _) a _ hf hd (fun _ => hd)).any
    rw [← marks_none] at h1
    refine wpIn_mono (wpIn_region_any (Q := Norm fun a w => Q .normal a w) hm (any_bridge (by simpa using hnd) (by simpa using h1))) fun e a' w' hh => ?_
    obtain ⟨rfl, hh⟩ := hh
    exact hh⟩
def chk (ops : List Oper) (k : Nat) (ex : List Nat) : Bool := (Region.ready .any ops.toArray (marks ops.length k ex)).contains k && Region.free .any ops.toArray (marks ops.length k ex) k && Region.noSelect ops.toArray
theorem GT.first {d : Nat} {op : Op} {ty : TypeId} {pos : String} {after : Array Edge} {g : Option (Nat × Bool)} {v : Value} (hi : ops[k]? = some ⟨some d, op, ty, pos, after, g⟩) (hn : Nat.blt d n.n = true)
    (hq : ∀ a, Fr n env a → Quiet P ops.toArray (SS w0 H0 HS LS ops k) ⟨some d, op, ty, pos, after, g⟩ v a) (hS : ∀ w, St w0 H0 H L w → (ok = true → St w0 H0 HS LS w) → SS w0 H0 HS LS ops k w) (hc : chk ops k ex = true)
    (h : GT P n w0 H0 ops K HS LS ok fuel (k + 1) ex ((d, v) :: env) H L) : GT P n w0 H0 ops K HS LS ok (fuel + 1) k ex env H L :=
  ⟨fun hcl a w hf hs hk => by
    simp only [chk, Bool.and_eq_true] at hc
    obtain ⟨⟨h1, h2⟩, h3⟩ := hc
    have hi' : ops.toArray[k]? = some ⟨some d, op, ty, pos, after, g⟩ := by simpa using hi
    have hr : k ∈ Region.ready .any ops.toArray (marks ops.length k ex) := by simpa using h1
    refine G.first SS.grow hi' (Region.noSelect_spec h3) fuel _ a w hcl (Region.free_spec hi' h2) hr (hq a hf) (hS w hs hk) ?_
    have hcl' := closed_set hcl hr
    rw [marks_next] at hcl' ⊢
    exact h.out hcl' _ _ (hf.put hn v) hs hk⟩
/-- A quiet operation that does not ask the world. -/
theorem GT.pure {d : Nat} {op : Op} {ty : TypeId} {pos : String} {after : Array Edge} {g : Option (Nat × Bool)} {v : Value} (hi : ops[k]? = some ⟨some d, op, ty, pos, after, g⟩) (hm : mqAt ops k = false) (hn : Nat.blt d n.n = true)
    (hw : want ops env ⟨some d, op, ty, pos, after, g⟩ = some true) (hv : V P n (fun _ => True) env op v) (hc : chk ops k ex = true)
    (h : GT P n w0 H0 ops K HS LS ok fuel (k + 1) ex ((d, v) :: env) H L) : GT P n w0 H0 ops K HS LS ok (fuel + 1) k ex env H L :=
  GT.first hi hn (fun a hf => .inl ⟨want_spec hf hw, fun w _ => by unfold Oper.quietAt; rw [hv.out _ a w rfl hf trivial]; exact ⟨rfl, rfl⟩⟩) (fun w _ _ hh => by rw [hm] at hh; cases hh) hc h
/-- A load, or the like. -/
theorem GT.read {d : Nat} {op : Op} {ty : TypeId} {pos : String} {after : Array Edge} {g : Option (Nat × Bool)} {v : Value} (hi : ops[k]? = some ⟨some d, op, ty, pos, after, g⟩) (hm : mqAt ops k = true) (hn : Nat.blt d n.n = true)
    (hw : want ops env ⟨some d, op, ty, pos, after, g⟩ = some true) (hv : V P n (St w0 H0 HS LS) env op v) (hc : chk ops k ex = true)
    (h : GT P n w0 H0 ops K HS LS true fuel (k + 1) ex ((d, v) :: env) H L) : GT P n w0 H0 ops K HS LS true (fuel + 1) k ex env H L :=
  GT.first hi hn (fun a hf => .inl ⟨want_spec hf hw, fun w hs => by unfold Oper.quietAt; rw [hv.out _ a w rfl hf (hs hm)]; exact ⟨rfl, rfl⟩⟩) (fun w _ hh _ => hh rfl) hc h
/-- It is passed over. -/
theorem GT.skip {d : Nat} {op : Op} {ty : TypeId} {pos : String} {after : Array Edge} {g : Option (Nat × Bool)} (hi : ops[k]? = some ⟨some d, op, ty, pos, after, g⟩) (hn : Nat.blt d n.n = true)
    (hw : want ops env ⟨some d, op, ty, pos, after, g⟩ = some false) (hc : chk ops k ex = true)
    (h : GT P n w0 H0 ops K HS LS true fuel (k + 1) ex ((d, undef) :: env) H L) : GT P n w0 H0 ops K HS LS true (fuel + 1) k ex env H L :=
  GT.first hi hn (fun a hf => .inr ⟨want_spec hf hw, rfl⟩) (fun w _ hh _ => hh rfl) hc h
/-- A call that hands back v and leaves what was there. -/
theorem GT.call {d : Nat} {x : Operand} {args : Array Operand} {tys : Array TypeId} {ty : TypeId} {pos : String} {after : Array Edge} {g : Option (Nat × Bool)} {f : FuncId} {first cap : Array Value} {vs : List Value} {v : Value}
    (hi : ops[k]? = some ⟨some d, .call { callee := .value x, args := args, argTypes := tys }, ty, pos, after, g⟩) (hm : mqAt ops k = true) (hn : Nat.blt d n.n = true)
    (hw : want ops env ⟨some d, .call { callee := .value x, args := args, argTypes := tys }, ty, pos, after, g⟩ = some true) (hx : ev env x = some (.func (.func f) first cap)) (hargs : evs env args.toList = some vs)
    (hcall : ∀ (args : Array Value) (w : World), (callFunc f args).run P w = .ok (.enter f args) w)
    (hcc : ∀ w, St w0 H0 HS LS w → Calls P f (first ++ vs.toArray ++ cap) w (Ret w v)) (hc : chk ops k ex = true)
    (h : GT P n w0 H0 ops K HS LS true fuel (k + 1) ex ((d, v) :: env) H L) : GT P n w0 H0 ops K HS LS true (fuel + 1) k ex env H L :=
  GT.first hi hn (fun a hf => .inl ⟨want_spec hf hw, fun w hs => by
    unfold Oper.quietAt
    rw [run_call rfl (hf.ev hx) (hf.evs hargs) hcall]
    exact ⟨rfl, hcc w (hs hm)⟩⟩) (fun w _ hh _ => hh rfl) hc h
theorem GT.call0 {f : FuncId} (hcall : ∀ (args : Array Value) (w : World), (callFunc f args).run P w = .ok (.enter f args) w) {d : Nat} {args : Array Operand} {tys : Array TypeId} {ty : TypeId} {pos : String} {after : Array Edge} {g : Option (Nat × Bool)} {vs : List Value} {v : Value}
    (hi : ops[k]? = some ⟨some d, .call { callee := .value (.func f), args := args, argTypes := tys }, ty, pos, after, g⟩) (hm : mqAt ops k = true) (hn : Nat.blt d n.n = true)
    (hw : want ops env ⟨some d, .call { callee := .value (.func f), args := args, argTypes := tys }, ty, pos, after, g⟩ = some true) (hargs : evs env args.toList = some vs)
    (hcc : ∀ w, St w0 H0 HS LS w → Calls P f vs.toArray w (Ret w v)) (hc : chk ops k ex = true)
    (h : GT P n w0 H0 ops K HS LS true fuel (k + 1) ex ((d, v) :: env) H L) : GT P n w0 H0 ops K HS LS true (fuel + 1) k ex env H L :=
  GT.call hi hm hn hw (by rfl) hargs hcall (fun w hs => by simpa using hcc w hs) hc h
/-- A guard's test that is not decided. -/
theorem GT.part (s : Nat) {e : Bool} (hx : look s env = some (.bool e)) (ht : e = true → GT P n w0 H0 ops K HS LS ok fuel k ex ((s, .bool true) :: env) H L) (hf : e = false → GT P n w0 H0 ops K HS LS ok fuel k ex ((s, .bool false) :: env) H L) : GT P n w0 H0 ops K HS LS ok fuel k ex env H L := by
  refine ⟨fun hcl a w hfr hs hk => ?_⟩
  have key : ∀ b, e = b → Fr n ((s, .bool b) :: env) a := by
    rintro b rfl
    refine ⟨hfr.defers, hfr.size, fun t v hv => ?_⟩
    simp only [look] at hv
    by_cases he : s = t
    · subst he
      simp at hv
      subst hv
      exact hfr.vals _ _ hx
    · rw [beq_no he] at hv
      exact hfr.vals t v hv
  cases he : e with
  | true => exact (ht he).out hcl a w (key _ he) hs hk
  | false => exact (hf he).out hcl a w (key _ he) hs hk
theorem GT.guard {o : Oper} {j d : Nat} {b : Bool} {op : Op} {ty : TypeId} {pos : String} {after : Array Edge} {g : Option (Nat × Bool)} {e : Bool} {p q : Prop} (_hi : ops[k]? = some o) (_hg : o.guard = some (j, b)) (_hj : ops[j]? = some ⟨some d, op, ty, pos, after, g⟩) (hx : look d env = some (.bool e)) (hd : Is e p q)
    (ht : p → GT P n w0 H0 ops K HS LS ok fuel k ex ((d, .bool true) :: env) H L) (hf : q → GT P n w0 H0 ops K HS LS ok fuel k ex ((d, .bool false) :: env) H L) : GT P n w0 H0 ops K HS LS ok fuel k ex env H L :=
  GT.part d hx (fun h => ht (hd.yes h)) (fun h => hf (hd.no h))
/-- All have come up. -/
theorem GT.done' (hr : Region.ready .any ops.toArray (marks ops.length k ex) = []) (h : N n w0 H0 (fun e a w => e = .normal → K a w) .normal env H L) : GT P n w0 H0 ops K HS LS ok fuel k ex env H L := by
  refine ⟨fun _ a w hf hs _ => ?_⟩
  cases fuel with
  | zero => exact fun w' hb => ⟨hr, h.out _ _ hf (hs.grow hb) rfl⟩
  | succ fuel => exact fun w' hb => ⟨fun _ => h.out _ _ hf (hs.grow hb) rfl, by rw [hr]; simp⟩
theorem N.ofQ {Q : Exit → Act → World → Prop} (h : N n w0 H0 Q .normal env H L) : N n w0 H0 (fun e a w => e = .normal → (fun a w => Q .normal a w) a w) .normal env H L := ⟨fun a w hf hs _ => h.out a w hf hs⟩
/-- One that is not quiet comes up. -/
structure GS (P : Program) (n : FK) (w0 : World) (H0 : Hp) (ops : List Oper) (K : Act → World → Prop) (HS : Hp) (LS : List Loc) (ok : Bool) (fuel : Nat) (k : Nat) (ex : List Nat) (env : List (Nat × Value)) (H : Hp) (L : List Loc) (j : Nat) : Prop where
  out : Closed ops.toArray (marks ops.length k (j :: ex)) → ∀ a w, Fr n env a → St w0 H0 H L w → (ok = true → St w0 H0 HS LS w) → wpOp P ops.toArray (Norm K) j (fun a' w'' => (∀ i, (marks ops.length k ex).getD i false = true → anc ops.toArray ops.toArray.size j i = false → SS w0 H0 HS LS ops i w → SS w0 H0 HS LS ops i w'') ∧ G P ops.toArray K (SS w0 H0 HS LS ops) fuel (marks ops.length k (j :: ex)) a' w'') a w
def AllS (F : Nat → Prop) : List Nat → Prop
  | [] => True
  | k :: r => F k ∧ AllS F r
theorem allS_mem {F : Nat → Prop} : ∀ {l : List Nat}, AllS F l → ∀ k ∈ l, F k
  | _ :: _, h, k, hk => by
    rcases List.mem_cons.1 hk with rfl | hk
    · exact h.1
    · exact allS_mem h.2 k hk
theorem GT.fork (rs : List Nat) (hr : Region.ready .any ops.toArray (marks ops.length k ex) = rs) (hne : rs.isEmpty = false) (h : AllS (GS P n w0 H0 ops K HS LS ok fuel k ex env H L) rs) : GT P n w0 H0 ops K HS LS ok (fuel + 1) k ex env H L :=
  ⟨fun hcl a w hf hs hk w' hb => ⟨fun h0 => (by rw [h0] at hr; subst hr; cases hne), fun j hj => by
    have hcl' := closed_set hcl hj
    rw [marks_more] at hcl' ⊢
    exact (allS_mem h j (hr ▸ hj)).out hcl' a w' hf (hs.grow hb) (fun h' => (hk h').grow hb)⟩⟩
def readyB (ops : List Oper) (k : Nat) (ex rs : List Nat) : Bool := Region.ready .any ops.toArray (marks ops.length k ex) == rs
theorem GT.fork1 (hr : readyB ops k ex [k] = true) (h : GS P n w0 H0 ops K HS LS ok fuel k ex env H L k) : GT P n w0 H0 ops K HS LS ok (fuel + 1) k ex env H L :=
  GT.fork [k] (by simpa [readyB] using hr) rfl ⟨h, trivial⟩
theorem GT.fork2 (j : Nat) (hr : readyB ops k ex [k, j] = true) (h : GS P n w0 H0 ops K HS LS ok fuel k ex env H L k) (h' : GS P n w0 H0 ops K HS LS ok fuel k ex env H L j) : GT P n w0 H0 ops K HS LS ok (fuel + 1) k ex env H L :=
  GT.fork [k, j] (by simpa [readyB] using hr) rfl ⟨h, h', trivial⟩
theorem GT.done (hr : readyB ops k ex [] = true) (h : N n w0 H0 (fun e a w => e = .normal → K a w) .normal env H L) : GT P n w0 H0 ops K HS LS ok fuel k ex env H L :=
  GT.done' (by simpa [readyB] using hr) h
/-- Number k has come up already. -/
theorem GT.adv (h : ex.any (Nat.beq k) = true) (hh : GT P n w0 H0 ops K HS LS ok fuel (k + 1) ex env H L) : GT P n w0 H0 ops K HS LS ok fuel k ex env H L :=
  ⟨fun hcl a w hf hs hk => by
    rw [marks_has _ _ _ h] at hcl ⊢
    exact hh.out hcl a w hf hs hk⟩
/-- It makes memory. -/
theorem GS.grow {j : Nat} {o : Oper} {G' : Type} {φ : G' → Prop} {E : G' → List (Nat × Value)} {HH : G' → Hp} {LL : G' → List Loc} (hi : ops[j]? = some o) (hw : want ops env o = some true) (hx : X P n w0 H0 env H L o true φ E HH LL)
    (h : ∀ g, φ g → GT P n w0 H0 ops K HS LS ok fuel k (j :: ex) (E g) (HH g) (LL g)) : GS P n w0 H0 ops K HS LS ok fuel k ex env H L j :=
  ⟨fun hcl a w hf hs hk => by
    unfold wpOp
    have hi' : ops.toArray[j]? = some o := by simpa using hi
    simp only [hi']
    rw [want_spec hf hw, if_pos rfl]
    exact .inl (hx.out a w hf hs _ _ fun g a' w' hg hb hf' hs' => ⟨fun i _ _ hh => SS.grow i w w' hh (hb rfl), (h g hg).out hcl a' w' hf' hs' fun h' => (hk h').grow (hb rfl)⟩)⟩
/-- It writes into the call's own: what has been read before must be its forerunners' reading. -/
def allPure (ops : List Oper) (k : Nat) (ex : List Nat) (j : Nat) : Bool := (List.range ops.length).all fun i => !(marks ops.length k ex).getD i false || anc ops.toArray ops.toArray.size j i || !mqAt ops i
theorem GS.eff {j : Nat} {o : Oper} {gr : Bool} {G' : Type} {φ : G' → Prop} {E : G' → List (Nat × Value)} {HH : G' → Hp} {LL : G' → List Loc} (hi : ops[j]? = some o) (hp : allPure ops k ex j = true) (hw : want ops env o = some true) (hx : X P n w0 H0 env H L o gr φ E HH LL)
    (h : ∀ g, φ g → GT P n w0 H0 ops K HS LS false fuel k (j :: ex) (E g) (HH g) (LL g)) : GS P n w0 H0 ops K HS LS ok fuel k ex env H L j :=
  ⟨fun hcl a w hf hs hk => by
    unfold wpOp
    have hi' : ops.toArray[j]? = some o := by simpa using hi
    simp only [hi']
    rw [want_spec hf hw, if_pos rfl]
    refine .inl (hx.out a w hf hs _ _ fun g a' w' hg hb hf' hs' => ⟨fun i hl ha _ hm => ?_, (h g hg).out hcl a' w' hf' hs' fun h' => by cases h'⟩)
    have hlt : i < ops.length := by
      rcases Nat.lt_or_ge i ops.length with h' | h'
      · exact h'
      · rw [Array.getD_eq_getD_getElem?, marks_get, if_neg (by omega)] at hl; simp at hl
    have := List.all_eq_true.1 hp i (List.mem_range.2 hlt)
    rw [hl, ha, hm] at this
    cases this⟩
end
end Go.Proofs.YtfbhcemlnojejaaDoor
namespace Go.Proofs.YtfbhcemlnojejaaDoor
set_option linter.unusedVariables false
set_option linter.unusedSimpArgs false
open Go Go.RowKit
section
variable {P : Program} {n : FK} {w0 : World} {H0 HS H : Hp} {K : Act → World → Prop} {env : List (Nat × Value)} {LS L : List Loc} {ops : List Oper} {ok : Bool} {fuel k : Nat} {ex : List Nat}
def chkAt (ops : List Oper) (k : Nat) (ex : List Nat) (j : Nat) : Bool := (Region.ready .any ops.toArray (marks ops.length k ex)).contains j && Region.free .any ops.toArray (marks ops.length k ex) j && Region.noSelect ops.toArray
theorem GT.firstAt (j : Nat) {d : Nat} {op : Op} {ty : TypeId} {pos : String} {after : Array Edge} {g : Option (Nat × Bool)} {v : Value} (hi : ops[j]? = some ⟨some d, op, ty, pos, after, g⟩) (hn : Nat.blt d n.n = true)
    (hq : ∀ a, Fr n env a → Quiet P ops.toArray (SS w0 H0 HS LS ops j) ⟨some d, op, ty, pos, after, g⟩ v a) (hS : ∀ w, St w0 H0 H L w → (ok = true → St w0 H0 HS LS w) → SS w0 H0 HS LS ops j w) (hc : chkAt ops k ex j = true)
    (h : GT P n w0 H0 ops K HS LS ok fuel k (j :: ex) ((d, v) :: env) H L) : GT P n w0 H0 ops K HS LS ok (fuel + 1) k ex env H L :=
  ⟨fun hcl a w hf hs hk => by
    simp only [chkAt, Bool.and_eq_true] at hc
    obtain ⟨⟨h1, h2⟩, h3⟩ := hc
    have hi' : ops.toArray[j]? = some ⟨some d, op, ty, pos, after, g⟩ := by simpa using hi
    have hr : j ∈ Region.ready .any ops.toArray (marks ops.length k ex) := by simpa using h1
    refine G.first SS.grow hi' (Region.noSelect_spec h3) fuel _ a w hcl (Region.free_spec hi' h2) hr (hq a hf) (hS w hs hk) ?_
    have hcl' := closed_set hcl hr
    rw [marks_more] at hcl' ⊢
    exact h.out hcl' _ _ (hf.put hn v) hs hk⟩
theorem GT.pureAt (j : Nat) {d : Nat} {op : Op} {ty : TypeId} {pos : String} {after : Array Edge} {g : Option (Nat × Bool)} {v : Value} (hi : ops[j]? = some ⟨some d, op, ty, pos, after, g⟩) (hm : mqAt ops j = false) (hn : Nat.blt d n.n = true)
    (hw : want ops env ⟨some d, op, ty, pos, after, g⟩ = some true) (hv : V P n (fun _ => True) env op v) (hc : chkAt ops k ex j = true)
    (h : GT P n w0 H0 ops K HS LS ok fuel k (j :: ex) ((d, v) :: env) H L) : GT P n w0 H0 ops K HS LS ok (fuel + 1) k ex env H L :=
  GT.firstAt j hi hn (fun a hf => .inl ⟨want_spec hf hw, fun w _ => by unfold Oper.quietAt; rw [hv.out _ a w rfl hf trivial]; exact ⟨rfl, rfl⟩⟩) (fun w _ _ hh => by rw [hm] at hh; cases hh) hc h
theorem GT.readAt (j : Nat) {d : Nat} {op : Op} {ty : TypeId} {pos : String} {after : Array Edge} {g : Option (Nat × Bool)} {v : Value} (hi : ops[j]? = some ⟨some d, op, ty, pos, after, g⟩) (hm : mqAt ops j = true) (hn : Nat.blt d n.n = true)
    (hw : want ops env ⟨some d, op, ty, pos, after, g⟩ = some true) (hv : V P n (St w0 H0 HS LS) env op v) (hc : chkAt ops k ex j = true)
    (h : GT P n w0 H0 ops K HS LS true fuel k (j :: ex) ((d, v) :: env) H L) : GT P n w0 H0 ops K HS LS true (fuel + 1) k ex env H L :=
  GT.firstAt j hi hn (fun a hf => .inl ⟨want_spec hf hw, fun w hs => by unfold Oper.quietAt; rw [hv.out _ a w rfl hf (hs hm)]; exact ⟨rfl, rfl⟩⟩) (fun w _ hh _ => hh rfl) hc h
end
end Go.Proofs.YtfbhcemlnojejaaDoor
