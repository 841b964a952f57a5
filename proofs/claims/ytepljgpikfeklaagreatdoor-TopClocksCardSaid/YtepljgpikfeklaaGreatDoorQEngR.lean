import Derived.Test.YtepljgpikfeklaaGreatDoorQTMap
import Derived.Maps.RangeRun
import Derived.Shelf.SlSortCmp.NoneTotal
import Derived.Test.YtepljgpikfeklaaGreatDoorQData
import Derived.Test.YtepljgpikfeklaaGreatDoorQEng
import Derived.Test.YtepljgpikfeklaaGreatDoorQTy
import Derived.Lib.AppendZeros
import Derived.DefersIn
import Derived.Recover
import Derived.Laws.IdiomStrings
namespace Go.Proofs.YtepljgpikfeklaaGreatDoor
set_option linter.unusedVariables false
set_option linter.unusedSimpArgs false
open Go Go.RowKit
section
variable {κ : Type} [DecidableEq κ] {mk : κ → Value} {P : Program} {kt : TypeId}
def aIdx (a : κ) (l : List (κ × Value)) : Nat := match aFind a l 0 with
  | some (i, _) => i
  | none => l.length
def aTouch (a : κ) (z : Value) (l : List (κ × Value)) : List (κ × Value) := match aFind a l 0 with
  | some _ => l
  | none => l ++ [(a, z)]
theorem run_mentry (K : KeyG P kt mk) {t e : TypeId} (ht : P.underlying t = some (.map kt e)) {z : Value} (a : κ) {l : List (κ × Value)} {w : World} (hz : (zeroValue e).run P w = .ok z w) {b : Nat} (hb : w.heap[b]? = some (mObj mk l)) : (Instr.mapEntry t (.map (some b)) (mk a)).run P w = .ok (.tuple #[(aGet a l).getD z, intV (aIdx a l)]) (w.putObj b (mObj mk (aTouch a z l))) := by
  have hg : (getObj b).run P w = .ok (mObj mk l) w := MapKept.run_getObj_map hb
  have hset : ∀ o, (setObj b o).run P w = .ok () (w.putObj b o) := fun o => MapKept.run_setObj_map o hb
  unfold Instr.mapEntry
  simp only [Sem.run_bind, run_underlying ht w, Result.andThen_ok, hg, mObj, K.check, List.toList_toArray, K.find]
  unfold aTouch aGet aIdx
  cases hf : aFind a l 0 with
  | none =>
    simp only [Sem.run_bind, hz, Result.andThen_ok, hset, Sem.run_pure]
    refine congr (congrArg Result.ok rfl) (congrArg _ ?_)
    try unfold mObj
    congr 1
    · apply Array.toList_inj.1
      apply List.ext_getElem?
      intro i
      simp only [Array.toList_push, List.toList_toArray]
      rw [List.getElem?_append, entsFrom_get, entsFrom_get, List.getElem?_append]
      have : (entsFrom mk 0 l).length = l.length := by unfold entsFrom; simp
      rw [this]
      by_cases h : i < l.length
      · simp [h]
      · by_cases h2 : i = l.length
        · subst h2; simp
        · rw [if_neg h, if_neg h]
          rw [List.getElem?_eq_none (by simp; omega), List.getElem?_eq_none (by simp; omega)]; rfl
    · simp
  | some p =>
    obtain ⟨i, u⟩ := p
    have hi := (aFind_some hf).2
    rw [Nat.sub_zero] at hi
    have hk : ((entsFrom mk 0 l).toArray[i]?.map (·.key)).getD (mk a) = mk a := by
      rw [List.getElem?_toArray, entsFrom_get, hi]; rfl
    have hbo : ((entsFrom mk 0 l).toArray[i]?.map (fun x => ((x.born : Nat) : Int))).getD 0 = (i : Int) := by
      rw [List.getElem?_toArray, entsFrom_get, hi]; simp
    have hsame : (entsFrom mk 0 l).toArray.modify i (fun e => { e with key := mk a }) = (entsFrom mk 0 l).toArray := by
      apply Array.ext_getElem?
      intro j
      rw [Array.getElem?_modify]
      by_cases h : i = j
      · subst h
        rw [if_pos rfl, List.getElem?_toArray, entsFrom_get, hi]; rfl
      · rw [if_neg h]
    simp only [hk, hbo, hsame, Instr.keyThatStays, K.bits, if_true, Sem.run_bind, Sem.run_pure, Result.andThen_ok, hset]
    rfl
omit [DecidableEq κ] in
theorem ents_find {l : List (κ × Value)} {j : Nat} (hj : j < l.length) : (entsFrom mk 0 l).toArray.findIdx? (fun e => ((e.born : Nat) : Int) == ((j : Nat) : Int)) = some j := by
  rw [List.findIdx?_toArray, List.findIdx?_eq_some_iff_getElem]
  have hl : (entsFrom mk 0 l).length = l.length := by unfold entsFrom; simp
  have hat : ∀ i (h : i < (entsFrom mk 0 l).length), (entsFrom mk 0 l)[i].born = i := fun i h => by
    have := entsFrom_get (mk := mk) 0 i l
    rw [List.getElem?_eq_getElem h, List.getElem?_eq_getElem (by omega)] at this
    simp at this
    rw [this]
  refine ⟨by omega, ?_, fun i hi => ?_⟩
  · rw [hat]; simp
  · rw [hat]; simp; omega
omit [DecidableEq κ] in
theorem run_estore {t : TypeId} {l : List (κ × Value)} {j : Nat} {a : κ} {u : Value} (hj : l[j]? = some (a, u)) (v : Value) {w : World} {b : Nat} (hb : w.heap[b]? = some (mObj mk l)) : (Instr.entryStore t (.map (some b)) (intV j) v).run P w = .ok () (w.putObj b (mObj mk (l.set j (a, v)))) := by
  have hg : (getObj b).run P w = .ok (mObj mk l) w := MapKept.run_getObj_map hb
  have hset : ∀ o, (setObj b o).run P w = .ok () (w.putObj b o) := fun o => MapKept.run_setObj_map o hb
  have hjl := (List.getElem?_eq_some_iff.1 hj).1
  unfold Instr.entryStore
  simp only [Sem.run_bind, hg, mObj, asInt, asIntOf, intV, Sem.run_pure, Result.andThen_ok, ents_find hjl, hset]
  refine congrArg _ (congrArg _ ?_)
  show Obj.map _ _ = Obj.map _ _
  congr 1
  · apply Array.ext_getElem?
    intro i
    rw [Array.getElem?_modify, List.getElem?_toArray, List.getElem?_toArray, entsFrom_get, entsFrom_get, List.getElem?_set]
    by_cases h : j = i
    · subst h
      rw [if_pos rfl, if_pos rfl, hj, if_pos hjl]; rfl
    · rw [if_neg h, if_neg h]
  · simp
end
section
variable {P : Program} {n : FK} {w0 w w' : World} {H0 H H' : Hp} {Q : Exit → Act → World → Prop} {env : List (Nat × Value)} {L L' : List Loc} {ops rest : List Oper} {κ : Type} [DecidableEq κ] {mk : κ → Value} {kt : TypeId}
theorem X.mentryG [Tys P] {d : Nat} {t e ty : TypeId} {x y : Operand} {b : Nat} {k ke : TyK} {pos : String} {after : Array Edge} {g : Option (Nat × Bool)} {l l' : List (κ × Value)} {c : Value} {j : Nat} (i : Nat) (a : κ) (hn : Nat.blt d n.n = true) (hk : tyk P t = some k) (hd : k.desc = .map kt e) (hke : tyk P e = some ke) (K : KeyG P kt mk) (hx : ev env x = some (.map (some b))) (hy : ev env y = some (mk a))
    (hi : L[i]? = some (.any b (mObj mk l))) (hc : (aGet a l).getD ke.zero = c) (hj : aIdx a l = j) (hl : aTouch a ke.zero l = l') {L' : List Loc} (hL : L.set i (.any b (mObj mk l')) = L') : X P n w0 H0 env H L ⟨some d, .mapEntry t x y, ty, pos, after, g⟩ false (G := Unit) (fun _ => True) (fun _ => (d, .tuple #[c, intV j]) :: env) (fun _ => H) (fun _ => L') :=
  ⟨fun a' w hf hs K' Q hK => by
    obtain ⟨dd, hd1, hd2⟩ := (tyk_ok hk).und
    rw [hd] at hd2
    simp only [TyD.fits] at hd2
    subst hd2
    have hrun := run_mentry K hd1 a ((tyk_ok hke).zeroRun w) (hs.ok _ (List.mem_of_getElem? hi)).2
    rw [hc, hj, hl] at hrun
    unfold Oper.wp
    have : (execOp a'.eval ⟨some d, .mapEntry t x y, ty, pos, after, g⟩).run P w = .ok (.value (.tuple #[c, intV j])) (w.putObj b (mObj mk l')) := by
      unfold execOp
      simp only [hf.ev hx, hf.ev hy, Sem.run_bind, hrun]
      rfl
    rw [this]
    subst hL
    exact hK () _ _ trivial (fun h => by cases h) (hf.put hn _) (hs.putObj _ hi)⟩
omit [DecidableEq κ] in
theorem X.estoreG {t ty : TypeId} {x y z : Operand} {b : Nat} {pos : String} {after : Array Edge} {g : Option (Nat × Bool)} {l l' : List (κ × Value)} {v u : Value} {j : Nat} (i : Nat) (a : κ) (hx : ev env x = some (.map (some b))) (hy : ev env y = some (intV j)) (hz : ev env z = some v)
    (hi : L[i]? = some (.any b (mObj mk l))) (hj : l[j]? = some (a, u)) (hl : l.set j (a, v) = l') {L' : List Loc} (hL : L.set i (.any b (mObj mk l')) = L') : X P n w0 H0 env H L ⟨none, .entryStore t x y z, ty, pos, after, g⟩ false (G := Unit) (fun _ => True) (fun _ => env) (fun _ => H) (fun _ => L') :=
  ⟨fun a' w hf hs K' Q hK => by
    have hrun := run_estore (P := P) (t := t) hj v (hs.ok _ (List.mem_of_getElem? hi)).2
    rw [hl] at hrun
    unfold Oper.wp
    have : (execOp a'.eval ⟨none, .entryStore t x y z, ty, pos, after, g⟩).run P w = .ok .skip (w.putObj b (mObj mk l')) := by
      unfold execOp
      simp only [hf.ev hx, hf.ev hy, hf.ev hz, Sem.run_bind, hrun]
      rfl
    rw [this]
    subst hL
    exact hK () _ _ trivial (fun h => by cases h) (hf.put_none _) (hs.putObj _ hi)⟩
def iterZ (b n : Nat) (seen : List Nat) : Obj := .mapIter (some b) n seen.toArray n
omit [DecidableEq κ] in
theorem X.rangeMap [Tys P] {d : Nat} {t e ty : TypeId} {x : Operand} {b : Nat} {k : TyK} {pos : String} {after : Array Edge} {g : Option (Nat × Bool)} {l : List (κ × Value)} (hn : Nat.blt d n.n = true) (hk : tyk P t = some k) (hd : k.desc = .map kt e) (hx : ev env x = some (.map (some b))) (hm : Loc.any b (mObj mk l) ∈ L) :
    X P n w0 H0 env H L ⟨some d, .range t x, ty, pos, after, g⟩ true (G := Nat) (fun _ => True) (fun r => (d, .pointer (some ⟨r, 0, none⟩)) :: env) (fun _ => H) (fun r => .any r (iterZ b l.length []) :: L) :=
  ⟨fun a' w hf hs K' Q hK => by
    obtain ⟨dd, hd1, hd2⟩ := (tyk_ok hk).und
    rw [hd] at hd2
    simp only [TyD.fits] at hd2
    subst hd2
    have hg : (getObj b).run P w = .ok (mObj mk l) w := MapKept.run_getObj_map (hs.ok _ hm).2
    unfold Oper.wp
    have : (execOp a'.eval ⟨some d, .range t x, ty, pos, after, g⟩).run P w = .ok (.value (.pointer (some ⟨w.heap.size, 0, none⟩))) (w.alloc (iterZ b l.length [])) := by
      unfold execOp
      simp only [hf.ev hx, Sem.run_bind, Instr.range, run_underlying hd1 w, Result.andThen_ok, hg, mObj, newObj, Sem.run_pure]
      rfl
    rw [this]
    exact hK _ _ _ trivial (fun _ => (Below.refl _ _).alloc (Nat.le_refl _) _) (hf.put hn _) (hs.alloc rfl ⟨hs.below.size, World.alloc_heap_new _ _⟩)⟩
def stepV (mk : κ → Value) (l : List (κ × Value)) : Option Nat → Value
  | none => .tuple #[.bool false]
  | some j => match l[j]? with
    | some p => .tuple #[.bool true, mk p.1, p.2]
    | none => .tuple #[.bool false]
def stepL (seen : List Nat) : Option Nat → List Nat
  | none => seen
  | some j => seen ++ [j]
def StepOK (n : Nat) (seen : List Nat) : Option Nat → Prop
  | none => ∀ j, j < n → j ∈ seen
  | some j => j < n ∧ j ∉ seen
omit [DecidableEq κ] in
theorem X.nextMap {d : Nat} {t ty : TypeId} {x : Operand} {b r : Nat} {pos : String} {after : Array Edge} {g : Option (Nat × Bool)} {l : List (κ × Value)} {seen : List Nat} (i : Nat) (hn : Nat.blt d n.n = true) (hx : ev env x = some (.pointer (some ⟨r, 0, none⟩))) (hi : L[i]? = some (.any r (iterZ b l.length seen))) (hm : Loc.any b (mObj mk l) ∈ L) :
    X P n w0 H0 env H L ⟨some d, .next x false, ty, pos, after, g⟩ false (G := Option Nat) (StepOK l.length seen) (fun o => (d, stepV mk l o) :: env) (fun _ => H) (fun o => L.set i (.any r (iterZ b l.length (stepL seen o)))) :=
  ⟨fun a' w hf hs K' Q hK => by
    have hr := (hs.ok _ (List.mem_of_getElem? hi)).2
    have hb := (hs.ok _ hm).2
    have hlen : (entsFrom mk 0 l).length = l.length := by unfold entsFrom; simp
    have hat : ∀ e ∈ entsFrom mk 0 l, ∃ j p, l[j]? = some p ∧ e = ⟨mk p.1, p.2, j⟩ := fun e he => by
      obtain ⟨j, hj⟩ := List.getElem?_of_mem he
      rw [entsFrom_get] at hj
      cases hp : l[j]? with
      | none => rw [hp] at hj; cases hj
      | some p => rw [hp] at hj; simp at hj; exact ⟨j, p, hp, hj.symm⟩
    unfold Oper.wp
    rcases run_next_at (P := P) w ty r b l.length l.length seen.toArray (entsFrom mk 0 l).toArray l.length hr hb (fun e he => by
        obtain ⟨j, p, h1, rfl⟩ := hat e (by simpa using he)
        exact (List.getElem?_eq_some_iff.1 h1).1) (Nat.le_refl _) with ⟨h1, h2⟩ | ⟨e, he, w1, hw1, h2⟩
    · have : (execOp a'.eval ⟨some d, .next x false, ty, pos, after, g⟩).run P w = .ok (.value (stepV mk l none)) w := by
        unfold execOp
        simp only [hf.ev hx, Sem.run_bind, h2]
        rfl
      rw [this]
      refine hK none _ _ (fun j hj => ?_) (fun h => by cases h) (hf.put hn _) ?_
      · apply Classical.byContradiction
        intro hns
        have hmem : (⟨mk l[j].1, l[j].2, j⟩ : MapEntry) ∈ leftOf (entsFrom mk 0 l).toArray seen.toArray := by
          unfold leftOf
          rw [Array.mem_filter]
          refine ⟨by
            rw [List.mem_toArray]
            exact List.mem_of_getElem? (i := j) (by rw [entsFrom_get, List.getElem?_eq_getElem hj]; simp), by simpa using hns⟩
        have := Array.size_pos_of_mem hmem
        omega
      · show St w0 H0 H (L.set i (.any r (iterZ b l.length seen))) w
        rw [set_same hi]; exact hs
    · unfold leftOf at he
      rw [Array.toList_filter, List.mem_filter] at he
      obtain ⟨j, p, h1, rfl⟩ := hat e (by simpa using he.1)
      have hjl := (List.getElem?_eq_some_iff.1 h1).1
      have hsv : stepV mk l (some j) = .tuple #[.bool true, mk p.1, p.2] := by unfold stepV; simp only [h1]
      have : (execOp a'.eval ⟨some d, .next x false, ty, pos, after, g⟩).run P w = .ok (.value (stepV mk l (some j))) (w1.putObj r (iterZ b l.length (seen ++ [j]))) := by
        unfold execOp
        simp only [hf.ev hx, Sem.run_bind, h2, hsv]
        simp only [iterZ, List.push_toArray]
        rfl
      rw [this]
      refine hK (some j) _ _ ⟨hjl, by simpa using he.2⟩ (fun h => by cases h) (hf.put hn _) ?_
      have hs1 : St w0 H0 H L w1 := by
        rcases hw1 with rfl | rfl
        · exact hs
        · exact hs.drew
      exact hs1.putObj _ hi⟩
omit [DecidableEq κ] in
theorem V.entryMap {x : Operand} {b r j : Nat} {l : List (κ × Value)} {seen : List Nat} {p : κ × Value} (hx : ev env x = some (.pointer (some ⟨r, 0, none⟩))) (hr : Loc.any r (iterZ b l.length (seen ++ [j])) ∈ L) (hm : Loc.any b (mObj mk l) ∈ L) (hj : l[j]? = some p) : V P n (St w0 H0 H L) env (.entry x) (.tuple #[mk p.1, p.2]) :=
  ⟨fun o a' w ho hf hs => by
    have hr := (hs.ok _ hr).2
    have hb := (hs.ok _ hm).2
    have hat : ∀ i, (entsFrom mk 0 l)[i]? = (l[i]?).map fun p => (⟨mk p.1, p.2, i⟩ : MapEntry) := fun i => by rw [entsFrom_get]; simp
    have hrun := run_entry_at (P := P) w r b l.length seen.toArray (entsFrom mk 0 l).toArray l.length (⟨mk p.1, p.2, j⟩ : MapEntry) (by
        have : (seen.toArray.push j) = (seen ++ [j]).toArray := by simp
        rw [show ({ key := mk p.1, val := p.2, born := j } : MapEntry).born = j from rfl, this]; exact hr) hb (by
        rw [List.toList_toArray]
        exact List.mem_of_getElem? (i := j) (by rw [hat, hj]; rfl)) (by
        rw [List.toList_toArray]
        have : (entsFrom mk 0 l).map (·.born) = List.range l.length := by
          apply List.ext_getElem?
          intro i
          rw [List.getElem?_map, hat]
          rcases Nat.lt_or_ge i l.length with h | h
          · rw [List.getElem?_eq_getElem h, List.getElem?_range h]; rfl
          · rw [List.getElem?_eq_none h, List.getElem?_eq_none (by simpa using h)]; rfl
        rw [this]
        exact List.nodup_range)
    unfold execOp
    rw [ho]
    simp only [hf.ev hx, Sem.run_bind, hrun]
    rfl⟩
end
end Go.Proofs.YtepljgpikfeklaaGreatDoor
namespace Go.Proofs.YtepljgpikfeklaaGreatDoor
set_option linter.unusedVariables false
set_option linter.unusedSimpArgs false
open Go Go.RowKit
open Enc (enc)
section
variable {α : Type} [Inhabited α]
theorem grow_of {w w' : World} (h : Below w.heap.size w w') : ∃ q os, w' = Go.Sort.grow (w.drewN q) os := by
  refine ⟨w'.drawn - w.drawn, w'.heap.extract w.heap.size w'.heap.size, ?_⟩
  obtain ⟨h1, h2, h3, h4, h5, h6⟩ := h
  obtain ⟨heap, tape, drawn, os, output⟩ := w
  obtain ⟨heap', tape', drawn', os', output'⟩ := w'
  simp only at *
  subst h1 h2 h3
  unfold Go.Sort.grow World.drewN
  simp only [World.mk.injEq, true_and, and_true]
  refine ⟨?_, by omega⟩
  apply Array.ext_getElem?
  intro k
  rw [Array.getElem?_append]
  split
  · rename_i hk
    exact h5 k hk
  · rename_i hk
    rw [Array.getElem?_extract]
    split
    · congr 1; omega
    · rw [Array.getElem?_eq_none (by omega)]
end
section
variable {w0 w : World} {H0 H : Hp} {LL : List Loc}
theorem St.draws (hs : St w0 H0 H LL w) (q : Nat) : St w0 H0 H LL (Go.Sort.ahead w q) :=
  hs.grow ⟨rfl, rfl, rfl, Nat.le_refl _, fun _ _ => rfl, Nat.le_add_right _ _⟩
theorem St.grown (hs : St w0 H0 H LL w) (os : Array Obj) : St w0 H0 H LL (Go.Sort.grow w os) :=
  hs.grow ⟨rfl, rfl, rfl, by rw [Go.Sort.size_grow]; omega, fun k hk => Go.Sort.heap_grow_old w os hk, Nat.le_refl _⟩
theorem St.putRow {α : Type} [Inhabited α] (enc : α → Value) (hs : St w0 H0 H LL w) {i b m c size : Nat} {e : TypeId} {xs : List Value} (hi : LL[i]? = some (.row (.slice (some ⟨b, 0, none⟩) m c) e size m xs)) (d : Array α) (hd : d.size = m * size) :
    St w0 H0 H (LL.set i (.row (.slice (some ⟨b, 0, none⟩) m c) e size m (d.toList.map enc))) (Go.Sort.putRow enc w b 0 d) := by
  obtain ⟨cur, h1, h2, h3, h4, h5, h6, h7⟩ := hs.row_get (List.mem_of_getElem? hi)
  have hmc : m * size ≤ c * size := Nat.mul_le_mul_right _ h4
  have hat : (Go.Sort.putRow enc w b 0 d).heap[b]? = some (.cells (Go.Sort.putCells enc 0 d cur) e (0, 0)) := by
    unfold Go.Sort.putRow Go.Sort.mapBlock
    simp [Array.getElem?_modify, h1, Go.Sort.onCells]
  refine hs.set hi rfl rfl (fun k hk => ?_) ?_ rfl rfl rfl (Nat.le_refl _) ?_
  · unfold Go.Sort.putRow Go.Sort.mapBlock
    rw [Array.getElem?_modify, if_neg (Ne.symm hk)]
  · simp [Go.Sort.putRow, Go.Sort.mapBlock]
  · refine ⟨by rw [List.length_map, Array.length_toList, hd], .inr ⟨b, c, _, rfl, h2, hat, h4, h5, by simp [Go.Sort.putCells, h6], ?_⟩⟩
    apply List.ext_getElem?
    intro k
    rw [List.getElem?_take]
    split
    · rename_i hk
      have hkc : k < cur.size := by omega
      have hkd : k < d.size := by omega
      simp only [Go.Sort.putCells, Array.getElem?_toList, Array.getElem?_mapIdx, Array.getElem?_eq_getElem hkc, List.getElem?_map, Array.getElem?_eq_getElem hkd, Option.map_some]
      rw [if_pos ⟨Nat.zero_le _, by omega⟩, Nat.sub_zero, getElem!_pos d k hkd]
    · rename_i hk
      rw [List.getElem?_eq_none (by rw [List.length_map, Array.length_toList]; omega)]
theorem holds_row {α : Type} [Inhabited α] (enc : α → Value) (hs : St w0 H0 H LL w) {b m c size : Nat} {e : TypeId} {xs : List Value} (hm : Loc.row (.slice (some ⟨b, 0, none⟩) m c) e size m xs ∈ LL) (d : Array α) (hd : d.toList.map enc = xs) : Go.Sort.Holds enc w b 0 d := fun j hj => by
  obtain ⟨cur, h1, h2, h3, h4, h5, h6, h7⟩ := hs.row_get hm
  refine ⟨?_, by simp [World.frozen?, h1]⟩
  rw [Nat.zero_add]
  refine hs.row_cell hm ?_
  rw [← hd, List.getElem?_map, Array.getElem?_toList, Array.getElem?_eq_getElem hj, getElem!_pos d j hj]
  rfl
end
section
variable {P : Program} {ρ : Go.Shelf.Ren} {w0 w : World} {H0 H : Hp} {LL : List Loc}
structure SortedZ {α : Type} (cf : α → α → Int) (xs ys : List α) : Prop where
  perm : ys.Perm xs
  ord : ys.Pairwise fun a b => ltOf cf b a = false
theorem sortedZ_of {α : Type} [Inhabited α] {cf : α → α → Int} {xs : List α} {d' : Array α} (hp : Go.Sort.PermIn 0 xs.toArray.size xs.toArray d') (ho : Go.Sort.SortedIn (ltOf cf) 0 xs.toArray.size d') : SortedZ cf xs d'.toList := by
  obtain ⟨h1, _, h3⟩ := hp
  have e1 : xs.toArray.extract 0 xs.toArray.size = xs.toArray := Array.extract_size
  have e2 : d'.extract 0 xs.toArray.size = d' := by rw [← h1]; exact Array.extract_size
  rw [e1, e2, List.toList_toArray] at h3
  refine ⟨h3, ?_⟩
  rw [List.pairwise_iff_getElem]
  intro i j hi hj hij
  have hi' : i < d'.size := by simpa using hi
  have hj' : j < d'.size := by simpa using hj
  have := ho i j (Nat.zero_le _) hij (by omega)
  rw [getElem!_pos d' i hi', getElem!_pos d' j hj'] at this
  simpa using this
theorem flatK_encs {α : Type} [Inhabited α] [Enc α] (l : List α) : (Go.Sort.flatK (α := α) enc (Enc.size α) l.toArray).toList = encs l := by
  have hpos := Enc.pos (α := α)
  apply List.ext_getElem
  · rw [Array.length_toList, Go.Sort.size_flatK, encs_length, List.size_toArray]
  · intro t h1 h2
    rw [encs_length] at h2
    have hlt : t / Enc.size α < l.length := (Nat.div_lt_iff_lt_mul hpos).2 h2
    have hmod : t % Enc.size α < (enc (l[t / Enc.size α])).length := by rw [Enc.len]; exact Nat.mod_lt _ hpos
    have h3 := encs_get l (t / Enc.size α) (t % Enc.size α) _ _ (List.getElem?_eq_getElem hlt) (List.getElem?_eq_getElem hmod)
    rw [Nat.div_add_mod'] at h3
    rw [List.getElem?_eq_getElem (by rw [encs_length]; exact h2)] at h3
    rw [Option.some.inj h3, Array.getElem_toList]
    have h4 := Go.Sort.get_flatK (α := α) enc (Enc.size α) l.toArray t (by simpa using h2)
    rw [getElem!_pos (Go.Sort.flatK (α := α) enc (Enc.size α) l.toArray) t (by rw [Go.Sort.size_flatK]; simpa using h2), getElem!_pos l.toArray _ (by simpa using hlt)] at h4
    rw [h4, List.getElem_toArray, getElem!_pos (enc (l[t / Enc.size α])) _ hmod]
theorem c_sortK {α : Type} [Inhabited α] [Enc α] (Y : SlLaysF0.n6 P ρ) (aE : ∀ w, (isAgg (ρ.t 24)).run P w = .ok true w) (zE : ∀ w, (Go.sizeOf (ρ.t 24)).run P w = .ok (Enc.size α) w) (cf : α → α → Int) (hO : Go.Sort.SWO (ltOf cf)) (g : Nat) (eg : ∀ args w, (callFunc g args).run P w = .ok (.enter g args) w)
    (hc : ∀ (x y : α) W, Calls P g #[.agg (enc x).toArray, .agg (enc y).toArray] W (Ret W (intV (cf x y)))) {v : Value} {e : TypeId} {xs : List α} (hs : St w0 H0 H LL w) (i : Nat) (hi : LL[i]? = some (.row v e (Enc.size α) xs.length (encs xs))) (hlen : xs.length < 4611686018427387904) :
    Calls P (ρ.f 6) #[v, .func (.func g) #[] #[]] w (fun e' w' => ∃ ys : List α, SortedZ cf xs ys ∧ e' = .returned (.tuple #[]) ∧ St w0 H0 H (LL.set i (.row v e (Enc.size α) ys.length (encs ys))) w') := by
  have hme := List.mem_of_getElem? hi
  rcases (show w.ownsRow w0.heap.size e (Enc.size α) v xs.length (encs xs) from hs.ok _ hme).2 with ⟨rfl, h0⟩ | ⟨b, c, cur, rfl, h2, h3, h4, h5, h6, h7⟩
  · refine (AnyF.slices_SortFunc_none Y none 0 (.func (.func g) #[] #[]) w).mono ?_
    rintro e' w' ⟨rfl, rfl⟩
    have hx : xs = [] := List.eq_nil_of_length_eq_zero h0
    subst hx
    exact ⟨[], ⟨.refl _, .nil⟩, rfl, by rw [set_same hi]; exact hs⟩
  · have hsz : xs.toArray.size = xs.length := by simp
    have hH : Go.Sort.HoldsK (α := α) enc (Enc.size α) w b 0 xs.toArray := holds_row id hs hme _ (by rw [List.map_id, flatK_encs])
    have hb : b < w.heap.size := (Array.getElem?_eq_some_iff.1 h3).1
    have := AnyQ.slices_SortFunc Y (Enc.size α) aE zE enc Enc.len (fun x => List.all_eq_true.1 (Enc.one x)) cf hO g #[] b 0 c xs.toArray w eg (fun m os dk _ x y => (hc x y _).mono fun e' w' ⟨he, hbl⟩ => ⟨he, grow_of hbl⟩) hH hb (by omega)
    rw [hsz] at this
    refine this.mono ?_
    rintro e' w' ⟨rfl, d', n, os, hp, ho, rfl⟩
    have hd : d'.size = xs.length := by rw [← hsz]; exact (by rw [hsz] ; exact hp.1.trans hsz)
    refine ⟨d'.toList, sortedZ_of (by rw [hsz]; exact hp) (by rw [hsz]; exact ho), rfl, ?_⟩
    have hst := ((hs.draws n).putRow id hi (Go.Sort.flatK (α := α) enc (Enc.size α) d') (by rw [Go.Sort.size_flatK, hd])).grown os
    rw [List.map_id, show d' = d'.toList.toArray by simp, flatK_encs] at hst
    rw [show d'.toList.length = xs.length by simpa using hd]
    simpa [sortWorldK, Go.Sort.putRowK] using hst
theorem c_sort1 {α : Type} [Inhabited α] (Y0 : SlLaysF0.n6 P ρ) (Y : SlLaysF.n6 P ρ) (enc : α → Value) (h1 : OneCell enc) (cf : α → α → Int) (hO : Go.Sort.SWO (ltOf cf)) (g : Nat) (eg : ∀ args w, (callFunc g args).run P w = .ok (.enter g args) w)
    (hc : ∀ (x y : α) W, Calls P g #[enc x, enc y] W (Ret W (intV (cf x y)))) {v : Value} {e : TypeId} {xs : List α} (hs : St w0 H0 H LL w) (i : Nat) (hi : LL[i]? = some (.row v e 1 xs.length (xs.map enc))) (hlen : xs.length < 4611686018427387904) :
    Calls P (ρ.f 6) #[v, .func (.func g) #[] #[]] w (fun e' w' => ∃ ys : List α, SortedZ cf xs ys ∧ e' = .returned (.tuple #[]) ∧ St w0 H0 H (LL.set i (.row v e 1 ys.length (ys.map enc))) w') := by
  have hme := List.mem_of_getElem? hi
  rcases (show w.ownsRow w0.heap.size e 1 v xs.length (xs.map enc) from hs.ok _ hme).2 with ⟨rfl, h0⟩ | ⟨b, c, cur, rfl, h2, h3, h4, h5, h6, h7⟩
  · refine (AnyF.slices_SortFunc_none Y0 none 0 (.func (.func g) #[] #[]) w).mono ?_
    rintro e' w' ⟨rfl, rfl⟩
    have hx : xs = [] := List.eq_nil_of_length_eq_zero h0
    subst hx
    exact ⟨[], ⟨.refl _, .nil⟩, rfl, by rw [set_same hi]; exact hs⟩
  · have hsz : xs.toArray.size = xs.length := by simp
    have hH : Go.Sort.Holds enc w b 0 xs.toArray := holds_row enc hs hme _ (by simp)
    have hb : b < w.heap.size := (Array.getElem?_eq_some_iff.1 h3).1
    have := Any.slices_SortFunc Y enc h1 cf hO g #[] b 0 c xs.toArray w eg (fun m os dk _ x y => (hc x y _).mono fun e' w' ⟨he, hbl⟩ => ⟨he, grow_of hbl⟩) hH hb (by omega)
    rw [hsz] at this
    refine this.mono ?_
    rintro e' w' ⟨rfl, d', n, os, hp, ho, rfl⟩
    have hd : d'.size = xs.length := hp.1.trans hsz
    refine ⟨d'.toList, sortedZ_of (by rw [hsz]; exact hp) (by rw [hsz]; exact ho), rfl, ?_⟩
    have hst := ((hs.draws n).putRow enc hi d' (by rw [hd]; omega)).grown os
    rw [show d'.toList.length = xs.length by simpa using hd]
    simpa [sortWorld] using hst
end
end Go.Proofs.YtepljgpikfeklaaGreatDoor
namespace Go.Proofs.YtepljgpikfeklaaGreatDoor
set_option linter.unusedVariables false
set_option linter.unusedSimpArgs false
open Go Go.RowKit
theorem isx {e : Bool} {p q : Prop} (h : Is e p q := by with_reducible (first | exact Is.ndec | exact Is.dec | exact Is.not | ((fail_if_success exact Is.litT); (fail_if_success exact Is.litF); exact Is.base))) : Is e p q := h
theorem lmem {p : Prop} (h : p := by repeat (first | exact List.Mem.head _ | apply List.Mem.tail)) : p := h
theorem rvx {p : Prop} (h : p := by (first | (apply RV.tmp; rfl) | (apply RV.cell; rfl; rfl; rfl; (exact lmem)) | (apply RV.row; rfl; rfl; rfl; (exact lmem); rfl))) : p := h
theorem vpure {p : Prop} (h : p := by first | (apply V.move; rfl) | (apply V.assign; rfl) | (apply V.pick_true; rfl; rfl) | (apply V.pick_false; rfl; rfl) | (apply V.not; rfl) | (apply V.fieldAddr; (iterate 5 rfl)) | (apply V.lss; rfl; rfl) | (apply V.leq; rfl; rfl) | (apply V.gtr; rfl; rfl) | (apply V.geq; rfl; rfl) | (apply V.eql; rfl; rfl) | (apply V.neq; rfl; rfl) | (apply V.seql; rfl; rfl) | (apply V.sneq; rfl; rfl) | (apply V.slss; rfl; rfl) | (apply V.slen; (iterate 4 rfl)) | (apply V.len; (iterate 4 rfl)) | (apply V.cap; (iterate 4 rfl)) | (apply V.add; rfl; rfl; (constructor <;> omega)) | (apply V.sub; rfl; rfl; (constructor <;> omega)) | (apply V.extract; rfl; rfl) | (apply V.elem; (iterate 6 rfl); omega; (apply Slc.Good.at_; assumption; omega)) | (apply V.sbyte0; (iterate 4 rfl); omega) | (apply V.sbyteN; (iterate 4 rfl); omega) | (apply V.sbyte; (iterate 4 rfl); (constructor <;> omega)) | (apply V.sgtr; rfl; rfl) | (apply V.elemArrI; (iterate 5 rfl); omega) | (apply V.elemI; (iterate 5 rfl); omega; (first | rfl | (apply Slc.Good.at_; assumption; omega))) | (apply V.rem; rfl; rfl; decide) | (apply V.sadd; rfl; rfl; (first | omega | (simp only [List.length_take, List.length_drop, List.length_append]; omega))) | (apply V.mul; rfl; rfl; (constructor <;> omega)) | (apply V.scut; (iterate 8 rfl); omega; omega) | (apply V.scutL; (iterate 5 rfl); omega) | (apply V.scutR; (iterate 5 rfl); omega) | (apply V.scutLT; (iterate 4 rfl); omega) | (apply V.scutRT; (iterate 4 rfl); omega) | (apply V.scutT; (iterate 5 rfl); omega) | (apply V.makeFunc (vs := []) (us := []) <;> rfl) | (apply V.makeFunc (vs := [_]) (us := []) <;> rfl)) : p := h
theorem vread {p : Prop} (h : p := by first | (apply V.load_loc; rfl; rfl; rfl; (exact lmem); rfl) | (apply V.load_loc_row; rfl; rfl; rfl; (exact lmem); rfl; rfl) | (apply V.load_H_row; rfl; rfl; rfl; (apply Slc.Good.row; assumption; omega); rfl) | (apply V.load_H; rfl; rfl; rfl; (apply Slc.Good.cell <;> first | assumption | rfl | omega)) | (apply V.load_H; rfl; rfl; rfl; (apply Slc.Good.cell0 <;> first | assumption | rfl | omega)) | (apply V.load_H_row; rfl; rfl; rfl; (apply Slc.Good.msgOf; assumption; omega); rfl) | (apply V.load_H_row; rfl; rfl; rfl; (apply Slc.Good.setOf; assumption; omega); rfl)) : p := h
theorem xgrow {p : Prop} (h : p := by first | (apply X.box; rfl; rfl; rfl) | (apply X.alloc; rfl; rfl; rfl) | (apply X.buildOnes; (iterate 9 rfl)) | (apply X.buildSlice1; (iterate 8 rfl)) | (apply X.buildSlice0; (iterate 4 rfl))) : p := h
theorem xput {p : Prop} (h : p := by first | (apply X.store 0; (iterate 8 rfl); (simp only [List.set_cons_zero, List.set_cons_succ, putCells]; rfl)) | (apply X.store 1; (iterate 8 rfl); (simp only [List.set_cons_zero, List.set_cons_succ, putCells]; rfl)) | (apply X.store 2; (iterate 8 rfl); (simp only [List.set_cons_zero, List.set_cons_succ, putCells]; rfl)) | (apply X.store 3; (iterate 8 rfl); (simp only [List.set_cons_zero, List.set_cons_succ, putCells]; rfl)) | (apply X.store 4; (iterate 8 rfl); (simp only [List.set_cons_zero, List.set_cons_succ, putCells]; rfl)) | (apply X.store 5; (iterate 8 rfl); (simp only [List.set_cons_zero, List.set_cons_succ, putCells]; rfl))) : p := h
end Go.Proofs.YtepljgpikfeklaaGreatDoor
namespace Go.Proofs.YtepljgpikfeklaaGreatDoor
set_option linter.unusedVariables false
set_option linter.unusedSimpArgs false
open Go Go.RowKit
set_option linter.unusedSectionVars false
section
variable {P : Program} {n : FK} {S : World → Prop} {env : List (Nat × Value)} {w0 : World} {H0 H : Hp} {L : List Loc}
theorem X.callB (us : List Value) {G : Type} {φ : G → Prop} {v : G → Value} {HH : G → Hp} {LL : G → List Loc} {d : Nat} {x : Operand} {args : Array Operand} {tys : Array TypeId} {ty : TypeId} {pos : String} {after : Array Edge} {g : Option (Nat × Bool)} {f : FuncId} {first cap : Array Value} {vs : List Value} (hn : Nat.blt d n.n = true)
    (hx : ev env x = some (.func (.func f) first cap)) (hargs : evs env args.toList = some vs) (hus : first ++ vs.toArray ++ cap = us.toArray)
    (hcall : ∀ (args : Array Value) (w : World), (callFunc f args).run P w = .ok (.enter f args) w)
    (hc : ∀ w, St w0 H0 H L w → CallsIn (FW none) 0 P f us.toArray w (fun e w' => ∃ g, φ g ∧ e = .returned (v g) ∧ St w0 H0 (HH g) (LL g) w')) :
    X P n w0 H0 env H L ⟨some d, .call { callee := .value x, args := args, argTypes := tys }, ty, pos, after, g⟩ false φ (fun g => (d, v g) :: env) HH LL :=
  X.callS hn hx hargs hcall (by rw [hus]; exact hc)
end
end Go.Proofs.YtepljgpikfeklaaGreatDoor
