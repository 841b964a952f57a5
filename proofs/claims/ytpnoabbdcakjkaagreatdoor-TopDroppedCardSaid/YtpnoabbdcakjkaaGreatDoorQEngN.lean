/- An engine for walks: maps that the call makes, keyed by whatever can be compared. -/
import Derived.Test.YtpnoabbdcakjkaaGreatDoorQEngC
import Derived.Test.YtpnoabbdcakjkaaGreatDoorQWEq
namespace Go.Proofs.YtpnoabbdcakjkaaGreatDoor
set_option linter.unusedVariables false
set_option linter.unusedSimpArgs false
open Go Go.RowKit
section
variable {κ : Type} [DecidableEq κ] {mk : κ → Value} {P : Program} {kt : TypeId}
/-- Keys, by what they do. -/
structure KeyG (P : Program) (kt : TypeId) (mk : κ → Value) : Prop where
  find : ∀ (a : κ) (l : List (κ × Value)) (w : World), (Instr.findKey kt (mk a) (entsFrom mk 0 l)).run P w = .ok (aFind a l 0) w
  check : ∀ (e : Bool) (a : κ) (w : World), (Instr.checkKey e 10000 kt (mk a)).run P w = .ok () w
  bits : ∀ a, Instr.sameBits 10000 (mk a) (mk a) = true
theorem run_mputG (K : KeyG P kt mk) {t e : TypeId} (ht : P.underlying t = some (.map kt e)) (a : κ) (v : Value) {l : List (κ × Value)} {w : World} {b : Nat} (hb : w.heap[b]? = some (mObj mk l)) : (Instr.mapUpdate t (.map (some b)) (mk a) v).run P w = .ok () (w.putObj b (mObj mk (aPut a v l))) := by
  have hg : (getObj b).run P w = .ok (mObj mk l) w := MapKept.run_getObj_map hb
  have hsz : b < w.heap.size := (Array.getElem?_eq_some_iff.1 hb).1
  have hset : ∀ o, (setObj b o).run P w = .ok () (w.putObj b o) := fun o => MapKept.run_setObj_map o hb
  unfold Instr.mapUpdate
  simp only [Sem.run_bind, run_underlying ht w, Result.andThen_ok, hg, mObj, K.check, List.toList_toArray, K.find]
  unfold aPut
  cases hf : aFind a l 0 with
  | none =>
    simp only [hset]
    congr 2
    try unfold mObj
    congr 1
    · apply Array.toList_inj.1
      apply List.ext_getElem?
      intro i
      simp only [Array.toList_push, List.toList_toArray]
      rw [List.getElem?_append, entsFrom_get, entsFrom_get, List.getElem?_append]
      have : (entsFrom mk 0 l).length = l.length := by unfold entsFrom; simp
      rw [this]
      by_cases h : i < l.length
      · simp [h]
      · by_cases h2 : i = l.length
        · subst h2; simp
        · rw [if_neg h, if_neg h]
          rw [List.getElem?_eq_none (by simp; omega), List.getElem?_eq_none (by simp; omega)]; rfl
    · simp
  | some p =>
    obtain ⟨i, u⟩ := p
    have hi := (aFind_some hf).2
    rw [Nat.sub_zero] at hi
    have hk : ((entsFrom mk 0 l).toArray[i]?.map (·.key)).getD (mk a) = mk a := by
      rw [List.getElem?_toArray, entsFrom_get, hi]; rfl
    simp only [hk, Instr.keyThatStays, K.bits, if_true, Sem.run_bind, Sem.run_pure, Result.andThen_ok, hset]
    congr 2
    try unfold mObj
    congr 1
    · apply Array.ext_getElem?
      intro j
      rw [Array.getElem?_modify, List.getElem?_toArray, List.getElem?_toArray, entsFrom_get, entsFrom_get, List.getElem?_set]
      by_cases h : i = j
      · subst h
        rw [if_pos rfl, if_pos rfl, hi, if_pos (by exact (List.getElem?_eq_some_iff.1 hi).1)]; rfl
      · rw [if_neg h, if_neg h]
    · simp
/-- Keys that are compared by '=='. -/
theorem run_findAsking (heq : ∀ (a b : κ) (w : World), (Op.equal kt (mk a) (mk b)).run P w = .ok (decide (a = b)) w) (a : κ) (w : World) : ∀ (l : List (κ × Value)) (i j : Nat), (Instr.findAsking kt (mk a) (entsFrom mk j l) i).run P w = .ok (aFind a l i) w
  | [], _, _ => rfl
  | (k, v) :: r, i, j => by
    show (Instr.findAsking kt (mk a) (⟨mk k, v, j⟩ :: entsFrom mk (j + 1) r) i).run P w = _
    unfold Instr.findAsking aFind
    simp only [Sem.run_bind, heq, Result.andThen_ok]
    by_cases h : a = k
    · simp [h]
    · simp only [h, decide_false, Bool.false_eq_true, if_false]; exact run_findAsking heq a w r (i + 1) (j + 1)
theorem run_findG {kd : TypeDesc} (hu : P.underlying kt = some kd) (hno : ∀ a b, Instr.sameNow kd (mk a) (mk b) = none) (heq : ∀ (a b : κ) (w : World), (Op.equal kt (mk a) (mk b)).run P w = .ok (decide (a = b)) w) (a : κ) (l : List (κ × Value)) (w : World) : (Instr.findKey kt (mk a) (entsFrom mk 0 l)).run P w = .ok (aFind a l 0) w := by
  unfold Instr.findKey
  rw [Sem.run_bind, run_underlying hu w]
  simp only [Result.andThen_ok]
  cases l with
  | nil => rfl
  | cons p r =>
    obtain ⟨k, v⟩ := p
    have : Instr.findNow kd (mk a) (entsFrom mk 0 ((k, v) :: r)) 0 = none := by
      show Instr.findNow kd (mk a) (⟨mk k, v, 0⟩ :: entsFrom mk 1 r) 0 = none
      unfold Instr.findNow
      simp only [hno]
    rw [this]
    exact run_findAsking heq a w ((k, v) :: r) 0 0
end
section
variable {P : Program} {n : FK} {w0 w w' : World} {H0 H H' : Hp} {Q : Exit → Act → World → Prop} {env : List (Nat × Value)} {L L' : List Loc} {ops rest : List Oper} {κ : Type} [DecidableEq κ] {mk : κ → Value} {kt : TypeId}
theorem X.mputG [Tys P] {t e ty : TypeId} {x y z : Operand} {b : Nat} {k : TyK} {pos : String} {after : Array Edge} {g : Option (Nat × Bool)} {l : List (κ × Value)} {v : Value} (i : Nat) (a : κ) (hk : tyk P t = some k) (hd : k.desc = .map kt e) (K : KeyG P kt mk) (hx : ev env x = some (.map (some b))) (hy : ev env y = some (mk a)) (hz : ev env z = some v)
    (hi : L[i]? = some (.any b (mObj mk l))) {L' : List Loc} (hL : L.set i (.any b (mObj mk (aPut a v l))) = L') : X P n w0 H0 env H L ⟨none, .mapUpdate t x y z, ty, pos, after, g⟩ false (G := Unit) (fun _ => True) (fun _ => env) (fun _ => H) (fun _ => L') :=
  ⟨fun a' w hf hs K' Q hK => by
    obtain ⟨d, hd1, hd2⟩ := (tyk_ok hk).und
    rw [hd] at hd2
    simp only [TyD.fits] at hd2
    subst hd2
    have hrun := run_mputG K hd1 a v (hs.ok _ (List.mem_of_getElem? hi)).2
    unfold Oper.wp
    have : (execOp a'.eval ⟨none, .mapUpdate t x y z, ty, pos, after, g⟩).run P w = .ok .skip (w.putObj b (mObj mk (aPut a v l))) := by
      unfold execOp
      simp only [hf.ev hx, hf.ev hy, hf.ev hz, Sem.run_bind, hrun]
      rfl
    rw [this]
    subst hL
    exact hK () _ _ trivial (fun h => by cases h) (hf.put_none _) (hs.putObj _ hi)⟩
end
end Go.Proofs.YtpnoabbdcakjkaaGreatDoor
