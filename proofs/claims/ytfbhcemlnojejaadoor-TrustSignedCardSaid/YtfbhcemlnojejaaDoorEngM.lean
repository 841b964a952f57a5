/-
  The engine: maps that the call makes, keyed by integers or strings.
-/
import Derived.Test.YtfbhcemlnojejaaDoorEngF
import Derived.Laws.StructEq
namespace Go.Proofs.YtfbhcemlnojejaaDoor
set_option linter.unusedVariables false
set_option linter.unusedSimpArgs false
open Go Go.RowKit

section plainer
variable {κ : Type} {mk : κ → Value}
def entsFrom (mk : κ → Value) (j : Nat) (l : List (κ × Value)) : List MapEntry := (l.zipIdx j).map fun p => ⟨mk p.1.1, p.1.2, p.2⟩
def mObj (mk : κ → Value) (l : List (κ × Value)) : Obj := .map (entsFrom mk 0 l).toArray l.length
theorem entsFrom_get (j i : Nat) (l : List (κ × Value)) : (entsFrom mk j l)[i]? = (l[i]?).map fun p => ⟨mk p.1, p.2, j + i⟩ := by
  unfold entsFrom
  rw [List.getElem?_map, List.getElem?_zipIdx]
  cases l[i]? <;> simp
end plainer
section plain
variable {κ : Type} [DecidableEq κ]
def aFind (a : κ) : List (κ × Value) → Nat → Option (Nat × Value)
  | [], _ => none
  | (k, v) :: r, i => if a = k then some (i, v) else aFind a r (i + 1)
def aGet (a : κ) (l : List (κ × Value)) : Option Value := (aFind a l 0).map (·.2)
def aPut (a : κ) (v : Value) (l : List (κ × Value)) : List (κ × Value) :=
  match aFind a l 0 with
  | some (i, _) => l.set i (a, v)
  | none => l ++ [(a, v)]
/-- Keys of one kind. -/
structure KeyK (P : Program) (kt : TypeId) (kd : TypeDesc) (mk : κ → Value) : Prop where
  und : P.underlying kt = some kd
  same : ∀ a b, Instr.sameNow kd (mk a) (mk b) = some (decide (a = b))
  check : ∀ (e : Bool) (a : κ) (w : World), (Instr.checkKey e 10000 kt (mk a)).run P w = .ok () w
  bits : ∀ a, Instr.sameBits 10000 (mk a) (mk a) = true
variable {mk : κ → Value} {P : Program} {kt : TypeId} {kd : TypeDesc}
theorem aFind_none {a : κ} : ∀ {l : List (κ × Value)} {i : Nat}, aFind a l i = none ↔ ∀ p ∈ l, p.1 ≠ a
  | [], _ => by simp [aFind]
  | (k, v) :: r, i => by
    unfold aFind
    by_cases h : a = k
    · simp [h]
    · rw [if_neg h, aFind_none]; simp; exact fun _ => fun h' => h h'.symm
theorem aFind_some {a : κ} : ∀ {l : List (κ × Value)} {i j : Nat} {v : Value}, aFind a l i = some (j, v) → i ≤ j ∧ l[j - i]? = some (a, v)
  | [], _, _, _, h => by cases h
  | (k, u) :: r, i, j, v, h => by
    unfold aFind at h
    by_cases e : a = k
    · rw [if_pos e] at h
      simp at h
      obtain ⟨rfl, rfl⟩ := h
      simp [e]
    · rw [if_neg e] at h
      obtain ⟨h1, h2⟩ := aFind_some h
      refine ⟨by omega, ?_⟩
      rw [show j - i = (j - (i + 1)) + 1 by omega]
      exact h2
theorem findNow_eq (K : KeyK P kt kd mk) (a : κ) : ∀ (l : List (κ × Value)) (i j : Nat), Instr.findNow kd (mk a) (entsFrom mk j l) i = some (aFind a l i)
  | [], _, _ => rfl
  | (k, v) :: r, i, j => by
    show Instr.findNow kd (mk a) (⟨mk k, v, j⟩ :: entsFrom mk (j + 1) r) i = _
    unfold Instr.findNow aFind
    simp only [K.same]
    by_cases h : a = k
    · simp [h]
    · simp only [h, decide_false, if_false]; exact findNow_eq K a r (i + 1) (j + 1)
theorem run_findKey (K : KeyK P kt kd mk) (a : κ) (l : List (κ × Value)) (w : World) : (Instr.findKey kt (mk a) (entsFrom mk 0 l)).run P w = .ok (aFind a l 0) w := by
  unfold Instr.findKey
  rw [Sem.run_bind, run_underlying K.und w]
  simp only [Result.andThen_ok, findNow_eq K]
  rfl
theorem run_mlookup (K : KeyK P kt kd mk) {t e : TypeId} (ht : P.underlying t = some (.map kt e)) {z : Value} (a : κ) {l : List (κ × Value)} {w : World} (hz : (zeroValue e).run P w = .ok z w) {b : Nat} (hb : w.heap[b]? = some (mObj mk l)) : (Instr.lookup t (.map (some b)) (mk a) false).run P w = .ok ((aGet a l).getD z) w := by
  have hg : (getObj b).run P w = .ok (mObj mk l) w := MapKept.run_getObj_map hb
  unfold Instr.lookup
  simp only [Sem.run_bind, run_underlying ht w, Result.andThen_ok, hg, mObj, Sem.run_pure, K.check, List.toList_toArray, run_findKey K]
  unfold aGet
  cases aFind a l 0 with
  | none => simp [hz]
  | some p => obtain ⟨i, v⟩ := p; simp
theorem run_mlookupOk (K : KeyK P kt kd mk) {t e : TypeId} (ht : P.underlying t = some (.map kt e)) {z : Value} (a : κ) {l : List (κ × Value)} {w : World} (hz : (zeroValue e).run P w = .ok z w) {b : Nat} (hb : w.heap[b]? = some (mObj mk l)) : (Instr.lookup t (.map (some b)) (mk a) true).run P w = .ok (.tuple #[(aGet a l).getD z, .bool (aGet a l).isSome]) w := by
  have hg : (getObj b).run P w = .ok (mObj mk l) w := MapKept.run_getObj_map hb
  unfold Instr.lookup
  simp only [Sem.run_bind, run_underlying ht w, Result.andThen_ok, hg, mObj, Sem.run_pure, K.check, List.toList_toArray, run_findKey K]
  unfold aGet
  cases aFind a l 0 with
  | none => simp [hz]
  | some p => obtain ⟨i, v⟩ := p; simp
theorem run_mput (K : KeyK P kt kd mk) {t e : TypeId} (ht : P.underlying t = some (.map kt e)) (a : κ) (v : Value) {l : List (κ × Value)} {w : World} {b : Nat} (hb : w.heap[b]? = some (mObj mk l)) : (Instr.mapUpdate t (.map (some b)) (mk a) v).run P w = .ok () (w.putObj b (mObj mk (aPut a v l))) := by
  have hg : (getObj b).run P w = .ok (mObj mk l) w := MapKept.run_getObj_map hb
  have hsz : b < w.heap.size := (Array.getElem?_eq_some_iff.1 hb).1
  have hset : ∀ o, (setObj b o).run P w = .ok () (w.putObj b o) := fun o => MapKept.run_setObj_map o hb
  unfold Instr.mapUpdate
  simp only [Sem.run_bind, run_underlying ht w, Result.andThen_ok, hg, mObj, K.check, List.toList_toArray, run_findKey K]
  unfold aPut
  cases hf : aFind a l 0 with
  | none =>
    simp only [hset]
    congr 2
    try unfold mObj
    congr 1
    · apply Array.toList_inj.1
      apply List.ext_getElem?
      intro i
      simp only [Array.toList_push, List.toList_toArray]
      rw [List.getElem?_append, entsFrom_get, entsFrom_get, List.getElem?_append]
      have : (entsFrom mk 0 l).length = l.length := by unfold entsFrom; simp
      rw [this]
      by_cases h : i < l.length
      · simp [h]
      · by_cases h2 : i = l.length
        · subst h2; simp
        · rw [if_neg h, if_neg h]
          rw [List.getElem?_eq_none (by simp; omega), List.getElem?_eq_none (by simp; omega)]; rfl
    · simp
  | some p =>
    obtain ⟨i, u⟩ := p
    have hi := (aFind_some hf).2
    rw [Nat.sub_zero] at hi
    have hk : ((entsFrom mk 0 l).toArray[i]?.map (·.key)).getD (mk a) = mk a := by
      rw [List.getElem?_toArray, entsFrom_get, hi]; rfl
    simp only [hk, Instr.keyThatStays, K.bits, if_true, Sem.run_bind, Sem.run_pure, Result.andThen_ok, hset]
    congr 2
    try unfold mObj
    congr 1
    · apply Array.ext_getElem?
      intro j
      rw [Array.getElem?_modify, List.getElem?_toArray, List.getElem?_toArray, entsFrom_get, entsFrom_get, List.getElem?_set]
      by_cases h : i = j
      · subst h
        rw [if_pos rfl, if_pos rfl, hi, if_pos (by exact (List.getElem?_eq_some_iff.1 hi).1)]; rfl
      · rw [if_neg h, if_neg h]
    · simp
end plain
theorem keyI {P : Program} {kt : TypeId} {q : IntKind} (h : P.underlying kt = some (.int q)) : KeyK P kt (.int q) (fun a : Int => .int q a) where
  und := h
  same a b := by simp only [Instr.sameNow, if_true]; rfl
  check e a w := by
    unfold Instr.checkKey
    rw [Sem.run_bind, run_underlying h w]; rfl
  bits a := by simp [Instr.sameBits]
theorem keyS {P : Program} {kt : TypeId} (h : P.underlying kt = some .string) : KeyK P kt .string (fun a : List UInt8 => strV a) where
  und := h
  same a b := by
    simp only [Instr.sameNow]
    rw [beq_toListBytes, bytes_eq]
  check e a w := by
    unfold Instr.checkKey
    rw [Sem.run_bind, run_underlying h w]; rfl
  bits a := by simp only [Instr.sameBits]; rw [beq_toListBytes, bytes_eq]; simp
section
variable {P : Program} {n : FK} {w0 w w' : World} {H0 H H' : Hp} {Q : Exit → Act → World → Prop} {env : List (Nat × Value)} {L L' : List Loc} {κ : Type}
theorem X.makeMap {d : Nat} {t ty : TypeId} {pos : String} {after : Array Edge} {g : Option (Nat × Bool)} (mk : κ → Value) (hn : Nat.blt d n.n = true) :
    X P n w0 H0 env H L ⟨some d, .makeMap t none, ty, pos, after, g⟩ true (G := Nat) (fun _ => True) (fun b => (d, .map (some b)) :: env) (fun _ => H) (fun b => .any b (mObj mk []) :: L) :=
  ⟨fun a w hf hs K Q hK => by
    unfold Oper.wp
    have : (execOp a.eval ⟨some d, .makeMap t none, ty, pos, after, g⟩).run P w = .ok (.value (.map (some w.heap.size))) (w.alloc (mObj mk [])) := by
      unfold execOp
      simp [Instr.makeMap, newObj]
      rfl
    rw [this]
    exact hK _ _ _ trivial (fun _ => (Below.refl _ _).alloc (Nat.le_refl _) _) (hf.put hn _) (hs.alloc rfl ⟨hs.below.size, World.alloc_heap_new _ _⟩)⟩
end
section
variable {P : Program} {n : FK} {w0 w w' : World} {H0 H H' : Hp} {Q : Exit → Act → World → Prop} {env : List (Nat × Value)} {L L' : List Loc} {ops rest : List Oper} {κ : Type} [DecidableEq κ] {mk : κ → Value} {kt : TypeId} {kd : TypeDesc}
theorem V.mlookup [Tys P] {t e : TypeId} {x y : Operand} {b : Nat} {k ke : TyK} {l : List (κ × Value)} {c : Value} (a : κ) (hk : tyk P t = some k) (hd : k.desc = .map kt e) (hke : tyk P e = some ke) (K : KeyK P kt kd mk) (hx : ev env x = some (.map (some b))) (hy : ev env y = some (mk a))
    (hm : Loc.any b (mObj mk l) ∈ L) (hc : (aGet a l).getD ke.zero = c) : V P n (St w0 H0 H L) env (.lookup t x y false) c :=
  ⟨fun o a' w ho hf hs => by
    obtain ⟨d, hd1, hd2⟩ := (tyk_ok hk).und
    rw [hd] at hd2
    simp only [TyD.fits] at hd2
    subst hd2
    have := run_mlookup K hd1 a ((tyk_ok hke).zeroRun w) (hs.ok _ hm).2
    unfold execOp
    rw [ho]
    simp only [hf.ev hx, hf.ev hy, Sem.run_bind, this, hc]
    rfl⟩
theorem V.mlookupOk [Tys P] {t e : TypeId} {x y : Operand} {b : Nat} {k ke : TyK} {l : List (κ × Value)} {c : Value} {f : Bool} (a : κ) (hk : tyk P t = some k) (hd : k.desc = .map kt e) (hke : tyk P e = some ke) (K : KeyK P kt kd mk) (hx : ev env x = some (.map (some b))) (hy : ev env y = some (mk a))
    (hm : Loc.any b (mObj mk l) ∈ L) (hc : (aGet a l).getD ke.zero = c) (hf' : (aGet a l).isSome = f) : V P n (St w0 H0 H L) env (.lookup t x y true) (.tuple #[c, .bool f]) :=
  ⟨fun o a' w ho hf hs => by
    obtain ⟨d, hd1, hd2⟩ := (tyk_ok hk).und
    rw [hd] at hd2
    simp only [TyD.fits] at hd2
    subst hd2
    have := run_mlookupOk K hd1 a ((tyk_ok hke).zeroRun w) (hs.ok _ hm).2
    unfold execOp
    rw [ho]
    simp only [hf.ev hx, hf.ev hy, Sem.run_bind, this, hc, hf']
    rfl⟩
theorem X.mput [Tys P] {t e ty : TypeId} {x y z : Operand} {b : Nat} {k : TyK} {pos : String} {after : Array Edge} {g : Option (Nat × Bool)} {l : List (κ × Value)} {v : Value} (i : Nat) (a : κ) (hk : tyk P t = some k) (hd : k.desc = .map kt e) (K : KeyK P kt kd mk) (hx : ev env x = some (.map (some b))) (hy : ev env y = some (mk a)) (hz : ev env z = some v)
    (hi : L[i]? = some (.any b (mObj mk l))) {L' : List Loc} (hL : L.set i (.any b (mObj mk (aPut a v l))) = L') : X P n w0 H0 env H L ⟨none, .mapUpdate t x y z, ty, pos, after, g⟩ false (G := Unit) (fun _ => True) (fun _ => env) (fun _ => H) (fun _ => L') :=
  ⟨fun a' w hf hs K' Q hK => by
    obtain ⟨d, hd1, hd2⟩ := (tyk_ok hk).und
    rw [hd] at hd2
    simp only [TyD.fits] at hd2
    subst hd2
    have hrun := run_mput K hd1 a v (hs.ok _ (List.mem_of_getElem? hi)).2
    unfold Oper.wp
    have : (execOp a'.eval ⟨none, .mapUpdate t x y z, ty, pos, after, g⟩).run P w = .ok .skip (w.putObj b (mObj mk (aPut a v l))) := by
      unfold execOp
      simp only [hf.ev hx, hf.ev hy, hf.ev hz, Sem.run_bind, hrun]
      rfl
    rw [this]
    subst hL
    exact hK () _ _ trivial (fun h => by cases h) (hf.put_none _) (hs.putObj _ hi)⟩
end
/-! ### sets -/
theorem aGet_set {κ : Type} [DecidableEq κ] (a : κ) (l : List κ) : (aGet a (l.map fun x => (x, Value.bool true))).getD (.bool false) = .bool (decide (a ∈ l)) := by
  unfold aGet
  cases h : aFind a (l.map fun x => (x, Value.bool true)) 0 with
  | none =>
    rw [aFind_none] at h
    rw [decide_eq_false fun h' => h (a, .bool true) (List.mem_map.2 ⟨a, h', rfl⟩) rfl]; rfl
  | some p =>
    obtain ⟨j, v⟩ := p
    have h2 := List.mem_of_getElem? (aFind_some h).2
    obtain ⟨x, hx, he⟩ := List.mem_map.1 h2
    simp only [Prod.mk.injEq] at he
    obtain ⟨rfl, rfl⟩ := he
    rw [decide_eq_true hx]; rfl
theorem aPut_set {κ : Type} [DecidableEq κ] {a : κ} {l : List κ} (h : a ∉ l) : aPut a (.bool true) (l.map fun x => (x, Value.bool true)) = (l ++ [a]).map fun x => (x, Value.bool true) := by
  unfold aPut
  have : aFind a (l.map fun x => (x, Value.bool true)) 0 = none := aFind_none.2 fun p hp => by
    obtain ⟨x, hx, rfl⟩ := List.mem_map.1 hp
    exact fun e => h (e ▸ hx)
  rw [this]; simp
end Go.Proofs.YtfbhcemlnojejaaDoor
