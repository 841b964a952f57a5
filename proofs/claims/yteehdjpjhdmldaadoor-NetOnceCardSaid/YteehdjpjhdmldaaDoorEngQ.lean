/-
  The engine: rows of the call's own: reading and writing their elements; a block that becomes a row.
-/
import Derived.Test.YteehdjpjhdmldaaDoorEngF
namespace Go.Proofs.YteehdjpjhdmldaaDoor
set_option linter.unusedVariables false
set_option linter.unusedSimpArgs false
open Go Go.RowKit
open Enc (enc)

section
variable {P : Program} {n : FK} {w0 : World} {H0 H : Hp} {Q : Exit → Act → World → Prop} {env : List (Nat × Value)} {L : List Loc} {ops rest : List Oper}
theorem St.row_get {w : World} (hs : St w0 H0 H L w) {b m c size : Nat} {e : TypeId} {xs : List Value} (hm : Loc.row (.slice (some ⟨b, 0, none⟩) m c) e size m xs ∈ L) : ∃ cur : Array Value, w.heap[b]? = some (.cells cur e (0, 0)) ∧ w0.heap.size ≤ b ∧ xs.length = m * size ∧ m ≤ c ∧ c ≤ maxLen ∧ cur.size = c * size ∧ cur.toList.take (m * size) = xs := by
  obtain ⟨h1, h2 | ⟨g, cap, cur, he, h3, h4, h5, h6, h7, h8⟩⟩ := (show w.ownsRow w0.heap.size e size (.slice (some ⟨b, 0, none⟩) m c) m xs from hs.ok _ hm)
  · exact absurd h2.1 (by simp)
  · simp only [Value.slice.injEq, Option.some.injEq, Addr.mk.injEq, true_and, and_true] at he
    obtain ⟨rfl, rfl⟩ := he
    exact ⟨cur, h4, h3, h1, h5, h6, h7, h8⟩
theorem St.row_cell {w : World} (hs : St w0 H0 H L w) {b m c size : Nat} {e : TypeId} {xs : List Value} (hm : Loc.row (.slice (some ⟨b, 0, none⟩) m c) e size m xs ∈ L) {o : Nat} {v : Value} (hv : xs[o]? = some v) : w.cell? ⟨b, o, none⟩ = some v := by
  obtain ⟨cur, h1, _, h3, _, _, _, h7⟩ := hs.row_get hm
  have hlt := (List.getElem?_eq_some_iff.1 hv).1
  rw [← h7, List.getElem?_take, if_pos (by omega)] at hv
  unfold World.cell?
  simp [h1]
  simpa using hv
theorem V.load_own [Tys P] {t : TypeId} {x : Operand} {b o m c size : Nat} {e : TypeId} {xs : List Value} {k : TyK} {v : Value} (hk : tyk P t = some k) (ha : k.desc.agg = false) (hx : ev env x = some (.pointer (some ⟨b, o, none⟩))) (hm : Loc.row (.slice (some ⟨b, 0, none⟩) m c) e size m xs ∈ L) (hv : xs[o]? = some v) :
    V P n (St w0 H0 H L) env (.load t x) v :=
  ⟨fun op a w ho hf hs => by
    unfold execOp; rw [ho]; simp only [hf.ev hx, Sem.run_bind, run_load_cell hk ha (hs.row_cell hm hv)]; rfl⟩
theorem V.load_own_row [Tys P] {t : TypeId} {x : Operand} {b o m c size : Nat} {e : TypeId} {xs vs : List Value} {k : TyK} (hk : tyk P t = some k) (ha : k.desc.agg = true) (hx : ev env x = some (.pointer (some ⟨b, o, none⟩))) (hm : Loc.row (.slice (some ⟨b, 0, none⟩) m c) e size m xs ∈ L) (hv : (xs.drop o).take k.size = vs) (hl : vs.length = k.size) :
    V P n (St w0 H0 H L) env (.load t x) (.agg vs.toArray) :=
  ⟨fun op a w ho hf hs => by
    unfold execOp; rw [ho]
    have : (Instr.loadAt t (.pointer (some ⟨b, o, none⟩))).run P w = .ok (.agg vs.toArray) w := run_load_row hk ha hl fun j v hj => by
      refine hs.row_cell hm ?_
      rw [← hv, List.getElem?_take] at hj
      by_cases hjk : j < k.size
      · rw [if_pos hjk, List.getElem?_drop] at hj; exact hj
      · rw [if_neg hjk] at hj; cases hj
    simp only [hf.ev hx, Sem.run_bind, this]; rfl⟩
theorem V.len_row [Tys P] {t e : TypeId} {tys : Array TypeId} {x : Operand} {v : Value} {size m : Nat} {xs : List Value} {k : TyK} (ht : tys[0]? = some t) (hk : tyk P t = some k) (hd : k.desc = .slice e) (hx : ev env x = some v) (hm : Loc.row v e size m xs ∈ L) : V P n (St w0 H0 H L) env (.call { callee := .builtin .len, args := #[x], argTypes := tys }) (intV m) :=
  ⟨fun o a w ho hf hs => by
    have h2 := (show w.ownsRow w0.heap.size e size v m xs from hs.ok _ hm).2
    rcases h2 with ⟨rfl, rfl⟩ | ⟨g, cap, cur, rfl, _⟩
    · exact (V.len (S := fun _ => True) (n := n) ht hk hd hx).out o a w ho hf trivial
    · exact (V.len (S := fun _ => True) (n := n) ht hk hd hx).out o a w ho hf trivial⟩
theorem putCells_length : ∀ (vs cs : List Value) (o : Nat), (putCells cs o vs).length = cs.length
  | [], _, _ => rfl
  | v :: vs, cs, o => by rw [putCells, putCells_length vs]; simp
theorem putCells_take : ∀ (vs cs : List Value) (o k : Nat), o + vs.length ≤ k → (putCells cs o vs).take k = putCells (cs.take k) o vs
  | [], _, _, _, _ => rfl
  | v :: vs, cs, o, k, h => by
    simp only [List.length_cons] at h
    rw [putCells, putCells, putCells_take vs _ _ _ (by omega), List.take_set]
theorem St.storeRow {w : World} (hs : St w0 H0 H L w) {i b m c size o : Nat} {e : TypeId} {xs vs : List Value} (hi : L[i]? = some (.row (.slice (some ⟨b, 0, none⟩) m c) e size m xs)) (ho : o + vs.length ≤ m * size) : St w0 H0 H (L.set i (.row (.slice (some ⟨b, 0, none⟩) m c) e size m (putCells xs o vs))) (w.setCells b o vs) := by
  obtain ⟨cur, h1, h2, h3, h4, h5, h6, h7⟩ := hs.row_get (List.mem_of_getElem? hi)
  have key : ∀ (vs : List Value) (o : Nat) (w : World), (w.setCells b o vs).heap.size = w.heap.size ∧ (w.setCells b o vs).os = w.os ∧ (w.setCells b o vs).tape = w.tape ∧ (w.setCells b o vs).output = w.output := by
    intro vs
    induction vs with
    | nil => intro o w; exact ⟨rfl, rfl, rfl, rfl⟩
    | cons v vs ih =>
      intro o w
      rw [World.setCells]
      obtain ⟨h1, h2, h3, h4⟩ := ih (o + 1) (w.setCell ⟨b, o, none⟩ v)
      exact ⟨h1.trans (by simp [World.setCell]), h2, h3, h4⟩
  obtain ⟨k1, k2, k3, k4⟩ := key vs o w
  have hcs : w.heap[b]? = some (.cells cur.toList.toArray e (0, 0)) := by simpa using h1
  have hc : c * size = cur.toList.length := by simp [h6]
  have hmc : m * size ≤ c * size := Nat.mul_le_mul_right _ h4
  have hnew := setCells_blk b e vs o w cur.toList hcs (by omega)
  refine hs.set hi rfl rfl (fun k hk => heap_setCells b vs o w k hk) k1 k2 k3 k4 ?_
  refine ⟨by rw [putCells_length]; exact h3, .inr ⟨b, c, _, rfl, h2, hnew, h4, h5, by simp [putCells_length, h6], ?_⟩⟩
  rw [List.toList_toArray, putCells_take _ _ _ _ ho, h7]
/-- A store into an element of a row of the call's own (number i of L). -/
theorem X.storeRow [Tys P] {t ty : TypeId} {p x : Operand} {pos : String} {after : Array Edge} {g : Option (Nat × Bool)} {b o m c size : Nat} {e : TypeId} {xs vs : List Value} {v : Value} {k : TyK} (i : Nat) (hk : tyk P t = some k)
    (hp : ev env p = some (.pointer (some ⟨b, o, none⟩))) (hx : ev env x = some v) (hi : L[i]? = some (.row (.slice (some ⟨b, 0, none⟩) m c) e size m xs)) (hv : v.cells = vs.toArray) (hl : vs.length = k.size) (h1 : vs.all (·.oneCell') = true) (ho : o + vs.length ≤ m * size) :
    X P n w0 H0 env H L ⟨none, .store t p x, ty, pos, after, g⟩ false (G := Unit) (fun _ => True) (fun _ => env) (fun _ => H) (fun _ => L.set i (.row (.slice (some ⟨b, 0, none⟩) m c) e size m (putCells xs o vs))) :=
  ⟨fun a w hf hs K Q hK => by
    unfold Oper.wp
    obtain ⟨cur, h1', h2, h3, h4, h5, h6, h7⟩ := hs.row_get (List.mem_of_getElem? hi)
    have hmc : m * size ≤ c * size := Nat.mul_le_mul_right _ h4
    have hrun := run_store_blk hk (w := w) (b := b) (o := o) (T := e) (cs := cur.toList) (vs := vs) (v := v) (by simpa using h1') hv hl h1 (by simp [h6]; omega)
    have : (execOp a.eval ⟨none, .store t p x, ty, pos, after, g⟩).run P w = .ok .skip (w.setCells b o vs) := by
      unfold execOp
      simp only [hf.ev hp, hf.ev hx, Sem.run_bind, hrun]
      rfl
    rw [this]
    exact hK () _ _ trivial (fun h => by cases h) (hf.put_none _) (hs.storeRow hi ho)⟩
/-- A new block is a row. -/
theorem St.blkRow {w : World} (hs : St w0 H0 H L w) {i b m size : Nat} {e : TypeId} {cs : List Value} (hi : L[i]? = some (.blk b e cs)) (hl : cs.length = m * size) (hm : m ≤ maxLen) : St w0 H0 H (L.set i (.row (.slice (some ⟨b, 0, none⟩) m m) e size m cs)) w := by
  have hme := List.mem_of_getElem? hi
  have h := hs.ok _ hme
  have hlt : b < w.heap.size := (Array.getElem?_eq_some_iff.1 h.2).1
  refine hs.set (w' := w) hi rfl rfl (fun _ _ => rfl) rfl rfl rfl rfl ?_
  exact ⟨hl, .inr ⟨b, m, cs.toArray, rfl, h.1, h.2, Nat.le_refl _, hm, by simp [hl], by simp [← hl]⟩⟩
theorem T.blkRow {c : Code} (i m size : Nat) {b : Nat} {e : TypeId} {cs : List Value} (hi : L[i]? = some (.blk b e cs)) (hl : cs.length = m * size) (hm : m ≤ maxLen) (h : T P n w0 H0 c Q env H (L.set i (.row (.slice (some ⟨b, 0, none⟩) m m) e size m cs))) : T P n w0 H0 c Q env H L :=
  ⟨fun a w hf hs => h.out a w hf (hs.blkRow hi hl hm)⟩
/-- An append that leaves something: where the row lies now. -/
theorem X.append1 [Tys P] (i : Nat) {d : Nat} {t e ty : TypeId} {x y : Operand} {pos : String} {after : Array Edge} {g : Option (Nat × Bool)} {k ke : TyK} {v : Value} {m j c b : Nat} {xs news : List Value} {T' : TypeId} (hn : Nat.blt d n.n = true) (hk : tyk P t = some k) (hd : k.desc = .slice e) (hke : tyk P e = some ke) (h0 : Nat.beq ke.size 0 = false) (hz : Nat.beq ke.zero.cells.size ke.size = true)
    (hx : ev env x = some v) (hi : L[i]? = some (.row v e ke.size m xs)) (hy : ev env y = some (.slice (some ⟨b, 0, none⟩) j c)) (hm : Loc.blk b T' news ∈ L) (hl : news.length = j * ke.size) (h1 : news.all (·.oneCell') = true) (hj : Nat.beq j 0 = false) (hb : (m + j) * ke.bytes ≤ 140737488355328) (h63 : m + j ≤ 9223372036854775807) :
    X P n w0 H0 env H L ⟨some d, .call { callee := .builtin .append, args := #[x, y], argTypes := #[t, t] }, ty, pos, after, g⟩ false (G := Nat × Nat) (fun _ => True) (fun p => (d, .slice (some ⟨p.1, 0, none⟩) (m + j) p.2) :: env) (fun _ => H) (fun p => L.set i (.row (.slice (some ⟨p.1, 0, none⟩) (m + j) p.2) e ke.size (m + j) (xs ++ news))) :=
  ⟨fun a w hf hs K Q hK => by
    refine (X.append i (pos := pos) (after := after) (g := g) (ty := ty) hn hk hd hke h0 hz hx hi hy hm hl h1 hb h63).out a w hf hs K Q fun v' a' w' hv' hg hf' hs' => ?_
    have hj' : j ≠ 0 := fun e => by subst e; simp at hj
    have hlen : i < L.length := (List.getElem?_eq_some_iff.1 hi).1
    have hme : Loc.row v' e ke.size (m + j) (xs ++ news) ∈ L.set i (.row v' e ke.size (m + j) (xs ++ news)) := List.mem_of_getElem? (i := i) (by simp [hlen])
    rcases (show w'.ownsRow w0.heap.size e ke.size v' (m + j) (xs ++ news) from hs'.ok _ hme).2 with ⟨_, h0⟩ | ⟨g', cap, cur, rfl, _⟩
    · omega
    · exact hK (g', cap) a' w' trivial (fun h => by cases h) hf' hs'⟩
end
instance : Enc (List UInt8) where
  size := 1
  enc l := [strV l]
  good _ l := l.length ≤ 9223372036854775807
  len _ := rfl
  mono _ h := h
  one _ := rfl
  pos := by decide
end Go.Proofs.YteehdjpjhdmldaaDoor
