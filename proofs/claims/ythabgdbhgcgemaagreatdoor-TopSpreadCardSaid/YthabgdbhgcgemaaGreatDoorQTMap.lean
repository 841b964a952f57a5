import Derived.Test.YthabgdbhgcgemaaGreatDoorQWB
import Derived.Test.YthabgdbhgcgemaaGreatDoorQSpec
import Derived.Test.YthabgdbhgcgemaaGreatDoorQDataH
import Derived.Test.YthabgdbhgcgemaaGreatDoorQEngC
import Derived.Lib.AppendStr
import Derived.Lib.ConvBytes
namespace Go.Proofs.YthabgdbhgcgemaaGreatDoor
set_option linter.unusedVariables false
set_option linter.unusedSimpArgs false
open Go Go.RowKit
open Enc (enc)
set_option maxRecDepth 20000
theorem set_eq {a b : RSet} : a.c = b.c ↔ (a.name = b.name ∧ a.typ = b.typ ∧ a.life = b.life ∧ a.data.els = b.data.els) := by
  unfold RSet.c; simp
theorem signed_eq {a b : Signed} : a.c = b.c ↔ (a.set.c = b.set.c ∧ a.sigs.els = b.sigs.els) := by unfold Signed.c; simp
set_option maxHeartbeats 2000000 in
theorem c_Same02 (a b : RSet) (H : Hp) (w : World) (hs : Sat H w) (ha : Enc.good H a) (hb : Enc.good H b) : Calls Tryz.prog 117 #[.agg (enc a).toArray, .agg (enc b).toArray] w (Ret w (.bool (decide (a.c = b.c)))) := by
  obtain ⟨a1, a2, a3, a4⟩ := ha
  obtain ⟨b1, b2, b3, b4⟩ := hb
  have hla : a.data.els.length = a.data.len := a4.len
  have hlb : b.data.els.length = b.data.len := b4.len
  have lima := a4.lim
  have limb := b4.lim
  refine T.enter (vs := [.agg (enc a).toArray, .agg (enc b).toArray]) (H := H) Tryz.func117 rfl rfl rfl hs ?_
  repeat (any_goals (first | refine T.seq ?_ | refine T.region ?_ | refine TL.nil ?_ | refine N.next ?_ | refine N.ret_then ?_ | refine T.ret ?_ | refine T.skip ?_ | refine T.block ?_ | (apply T.cond_true; rfl) | (apply T.test; rfl; (exact isx); intro _; rotate_left; intro _; rotate_right) | (apply TL.skip; rfl; rfl; rfl) | (apply TL.val; rfl; rfl; (first | exact vpure | exact vread)) | (apply TL.x; rfl; rfl; (first | exact xgrow | exact xput); intro _ _) | (apply TL.guard; rfl; rfl; rfl; (exact isx); intro _; rotate_left; intro _; rotate_right)))
  all_goals (try (first | (apply N.ret_bool; rfl; (exact rvx)) | (apply N.ret_int; rfl; (exact rvx)) | (apply N.ret_val; rfl; (exact rvx))))
  all_goals first
    | exact (decide_eq_false (fun h => by
        obtain ⟨e1, e2, e3, e4⟩ := set_eq.1 h
        have e5 := congrArg List.length e4
        first | contradiction | omega)).symm
    | skip
  rename_i x _ y _ h1 h2 h3 h4
  refine T.loop (G := Nat) (fun k => [(2, .pointer (some ⟨x, 0, none⟩)), (3, .pointer (some ⟨y, 0, none⟩)), (5, intV k)]) (fun _ => H) (fun _ => [.blk y 82 (enc b), .blk x 82 (enc a)]) (fun k => k ≤ a.data.len ∧ EqTo id a.data.els b.data.els k) (fun k => a.data.len - k) 0 ⟨Nat.zero_le _, eqTo_zero⟩ (by (repeat (first | exact True.intro | refine ⟨rfl, ?_⟩ | refine Sub.int rfl (by omega) ?_))) rfl (by (first | exact List.Sublist.refl _ | exact List.nil_sublist _ | exact List.Sublist.cons _ (List.Sublist.refl _) | exact List.Sublist.cons _ (List.Sublist.cons _ (List.Sublist.refl _)))) ?_
  rintro k ⟨hk, hrel⟩
  repeat (any_goals (first | refine T.seq ?_ | refine T.region ?_ | (apply T.regionD wide; rfl) | refine TL.nil ?_ | refine N.next ?_ | refine N.inBlock ?_ | refine N.exit_same ?_ | refine N.exit_then ?_ | refine N.ret_then ?_ | refine N.ret_block ?_ | refine T.ret ?_ | refine T.skip ?_ | refine T.exit ?_ | refine T.block ?_ | (apply T.test; rfl; (exact isx); intro _; rotate_left; intro _; rotate_right) | (apply GT.pure; (iterate 4 rfl); (apply V.aneq; rfl; rfl; exact Tryz.eqGuardType79; exact fun w => eq_Datum _ _ w); decide +kernel) | (apply TL.val; rfl; rfl; (first | exact vpure | exact vread)) | (apply GT.pure; (iterate 4 rfl); (first | exact vpure); decide +kernel) | (apply GT.read; (iterate 4 rfl); (first | exact vpure | exact vread); decide +kernel) | (apply GT.done; decide +kernel; apply N.ofQ)))
  all_goals (try (first | (apply N.ret_bool; rfl; (exact rvx)) | (apply N.ret_int; rfl; (exact rvx)) | (apply N.ret_val; rfl; (exact rvx))))
  all_goals (try (refine N.round (k + 1) ?_ ?_ ?_ ?_ ?_; rotate_left 2; (repeat (first | exact True.intro | refine ⟨rfl, ?_⟩ | refine Sub.int rfl (by omega) ?_)); rfl; (first | exact List.Sublist.refl _ | exact List.nil_sublist _ | exact List.Sublist.cons _ (List.Sublist.refl _) | exact List.Sublist.cons _ (List.Sublist.cons _ (List.Sublist.refl _)))))
  all_goals first
    | omega
    | exact ⟨by omega, eqTo_up (by omega) (by omega) hrel (by assumption)⟩
    | exact (decide_eq_false (fun h => eqTo_noI (k := k) (by omega) (by omega) (by assumption) (set_eq.1 h).2.2.2)).symm
    | exact (decide_eq_true (set_eq.2 ⟨by assumption, by assumption, by assumption, eqTo_endI (by omega) hrel (by omega)⟩)).symm
set_option maxHeartbeats 2000000 in
theorem c_SameSigned (a b : Signed) (H : Hp) (w : World) (hs : Sat H w) (ha : Enc.good H a) (hb : Enc.good H b) : Calls Tryz.prog 65 #[.agg (enc a).toArray, .agg (enc b).toArray] w (Ret w (.bool (decide (a.c = b.c)))) := by
  obtain ⟨a1, a4⟩ := ha
  obtain ⟨b1, b4⟩ := hb
  have hla : a.sigs.els.length = a.sigs.len := a4.len
  have hlb : b.sigs.els.length = b.sigs.len := b4.len
  have lima := a4.lim
  have limb := b4.lim
  refine T.enter (vs := [.agg (enc a).toArray, .agg (enc b).toArray]) (H := H) Tryz.func65 rfl rfl rfl hs ?_
  repeat (any_goals (first | refine T.seq ?_ | refine T.region ?_ | refine TL.nil ?_ | refine N.next ?_ | refine N.ret_then ?_ | refine T.ret ?_ | refine T.skip ?_ | refine T.block ?_ | (apply T.cond_true; rfl) | (apply T.test; rfl; (exact isx); intro _; rotate_left; intro _; rotate_right) | (apply TL.skip; rfl; rfl; rfl) | (apply TL.call0 (f := 117) Tryz.call117; rfl; rfl; rfl; (exact fun _ hs => c_Same02 _ _ _ _ hs.sat a1 b1)) | (apply TL.val; rfl; rfl; (first | exact vpure | exact vread)) | (apply TL.x; rfl; rfl; (first | exact xgrow | exact xput); intro _ _) | (apply TL.guard; rfl; rfl; rfl; (exact isx); intro _; rotate_left; intro _; rotate_right)))
  all_goals (try (first | (apply N.ret_bool; rfl; (exact rvx)) | (apply N.ret_int; rfl; (exact rvx)) | (apply N.ret_val; rfl; (exact rvx))))
  all_goals first
    | exact (decide_eq_false (fun h => by
        obtain ⟨e1, e4⟩ := signed_eq.1 h
        have e5 := congrArg List.length e4
        first | contradiction | omega)).symm
    | skip
  rename_i x _ y _ h1 h2
  refine T.loop (G := Nat) (fun k => [(2, .pointer (some ⟨x, 0, none⟩)), (3, .pointer (some ⟨y, 0, none⟩)), (5, intV k)]) (fun _ => H) (fun _ => [.blk y 86 (enc b), .blk x 86 (enc a)]) (fun k => k ≤ a.sigs.len ∧ EqTo id a.sigs.els b.sigs.els k) (fun k => a.sigs.len - k) 0 ⟨Nat.zero_le _, eqTo_zero⟩ (by (repeat (first | exact True.intro | refine ⟨rfl, ?_⟩ | refine Sub.int rfl (by omega) ?_))) rfl (by (first | exact List.Sublist.refl _ | exact List.nil_sublist _ | exact List.Sublist.cons _ (List.Sublist.refl _) | exact List.Sublist.cons _ (List.Sublist.cons _ (List.Sublist.refl _)))) ?_
  rintro k ⟨hk, hrel⟩
  repeat (any_goals (first | refine T.seq ?_ | refine T.region ?_ | (apply T.regionD wide; rfl) | refine TL.nil ?_ | refine N.next ?_ | refine N.inBlock ?_ | refine N.exit_same ?_ | refine N.exit_then ?_ | refine N.ret_then ?_ | refine N.ret_block ?_ | refine T.ret ?_ | refine T.skip ?_ | refine T.exit ?_ | refine T.block ?_ | (apply T.test; rfl; (exact isx); intro _; rotate_left; intro _; rotate_right) | (apply GT.pure; (iterate 4 rfl); (apply V.aneq; rfl; rfl; exact Tryz.eqGuardType102; exact fun w => eq_Sig _ _ w); decide +kernel) | (apply TL.val; rfl; rfl; (first | exact vpure | exact vread)) | (apply GT.pure; (iterate 4 rfl); (first | exact vpure); decide +kernel) | (apply GT.read; (iterate 4 rfl); (first | exact vpure | exact vread); decide +kernel) | (apply GT.done; decide +kernel; apply N.ofQ)))
  all_goals (try (first | (apply N.ret_bool; rfl; (exact rvx)) | (apply N.ret_int; rfl; (exact rvx)) | (apply N.ret_val; rfl; (exact rvx))))
  all_goals (try (refine N.round (k + 1) ?_ ?_ ?_ ?_ ?_; rotate_left 2; (repeat (first | exact True.intro | refine ⟨rfl, ?_⟩ | refine Sub.int rfl (by omega) ?_)); rfl; (first | exact List.Sublist.refl _ | exact List.nil_sublist _ | exact List.Sublist.cons _ (List.Sublist.refl _) | exact List.Sublist.cons _ (List.Sublist.cons _ (List.Sublist.refl _)))))
  all_goals first
    | omega
    | exact ⟨by omega, eqTo_up (by omega) (by omega) hrel (by assumption)⟩
    | exact (decide_eq_false (fun h => eqTo_noI (k := k) (by omega) (by omega) (by assumption) (signed_eq.1 h).2)).symm
    | exact (decide_eq_true (signed_eq.2 ⟨by assumption, eqTo_endI (by omega) hrel (by omega)⟩)).symm
theorem c_SameList (a b : Slc Signed) (H : Hp) (w : World) (hs : Sat H w) (a4 : a.Good H) (b4 : b.Good H) : Calls Tryz.prog 29 #[a.v, b.v] w (Ret w (.bool (decide (a.els.map Signed.c = b.els.map Signed.c)))) := by
  have hla : a.els.length = a.len := a4.len
  have hlb : b.els.length = b.len := b4.len
  have lima := a4.lim
  have limb := b4.lim
  refine T.enter (vs := [a.v, b.v]) (H := H) Tryz.func29 rfl rfl rfl hs ?_
  repeat (any_goals (first | refine T.seq ?_ | refine T.region ?_ | refine TL.nil ?_ | refine N.next ?_ | refine N.ret_then ?_ | refine T.ret ?_ | refine T.skip ?_ | refine T.block ?_ | (apply T.test; rfl; (exact isx); intro _; rotate_left; intro _; rotate_right) | (apply TL.val; rfl; rfl; (first | exact vpure | exact vread))))
  all_goals (try (first | (apply N.ret_bool; rfl; (exact rvx)) | (apply N.ret_int; rfl; (exact rvx)) | (apply N.ret_val; rfl; (exact rvx))))
  all_goals first
    | exact (decide_eq_false (fun h => by
        have e5 := congrArg List.length h
        simp only [List.length_map] at e5
        omega)).symm
    | skip
  refine T.loop (G := Nat) (fun k => [(0, a.v), (1, b.v), (5, intV k)]) (fun _ => H) (fun _ => []) (fun k => k ≤ a.len ∧ EqTo Signed.c a.els b.els k) (fun k => a.len - k) 0 ⟨Nat.zero_le _, eqTo_zero⟩ (by (repeat (first | exact True.intro | refine ⟨rfl, ?_⟩ | refine Sub.int rfl (by omega) ?_))) rfl (by (first | exact List.Sublist.refl _ | exact List.nil_sublist _ | exact List.Sublist.cons _ (List.Sublist.refl _) | exact List.Sublist.cons _ (List.Sublist.cons _ (List.Sublist.refl _)))) ?_
  rintro k ⟨hk, hrel⟩
  repeat (any_goals (first | refine T.seq ?_ | refine T.region ?_ | (apply T.regionD wide; rfl) | refine TL.nil ?_ | refine N.next ?_ | refine N.inBlock ?_ | refine N.exit_same ?_ | refine N.exit_then ?_ | refine N.ret_then ?_ | refine N.ret_block ?_ | refine T.ret ?_ | refine T.skip ?_ | refine T.exit ?_ | refine T.block ?_ | (apply T.test; rfl; (exact isx); intro _; rotate_left; intro _; rotate_right) | (apply GT.call0 (f := 65) Tryz.call65; (iterate 5 rfl); (exact fun _ hs => c_SameSigned _ _ _ _ hs.sat (a4.el (by omega)) (b4.el (by omega))); decide +kernel) | (apply TL.val; rfl; rfl; (first | exact vpure | exact vread)) | (apply GT.pure; (iterate 4 rfl); (first | exact vpure); decide +kernel) | (apply GT.read; (iterate 4 rfl); (first | exact vpure | exact vread); decide +kernel) | (apply GT.done; decide +kernel; apply N.ofQ)))
  all_goals (try (first | (apply N.ret_bool; rfl; (exact rvx)) | (apply N.ret_int; rfl; (exact rvx)) | (apply N.ret_val; rfl; (exact rvx))))
  all_goals (try (refine N.round (k + 1) ?_ ?_ ?_ ?_ ?_; rotate_left 2; (repeat (first | exact True.intro | refine ⟨rfl, ?_⟩ | refine Sub.int rfl (by omega) ?_)); rfl; (first | exact List.Sublist.refl _ | exact List.nil_sublist _ | exact List.Sublist.cons _ (List.Sublist.refl _) | exact List.Sublist.cons _ (List.Sublist.cons _ (List.Sublist.refl _)))))
  all_goals first
    | omega
    | exact ⟨by omega, eqTo_up (by omega) (by omega) hrel (by assumption)⟩
    | exact (decide_eq_false (eqTo_no (k := k) (by omega) (by omega) (by assumption))).symm
    | exact (decide_eq_true (eqTo_end (by omega) hrel (by omega))).symm
end Go.Proofs.YthabgdbhgcgemaaGreatDoor
namespace Go.Proofs.YthabgdbhgcgemaaGreatDoor
set_option linter.unusedVariables false
set_option linter.unusedSimpArgs false
open Go Go.RowKit
open Enc (enc)
set_option maxRecDepth 20000
end Go.Proofs.YthabgdbhgcgemaaGreatDoor
namespace Go.Proofs.YthabgdbhgcgemaaGreatDoor
set_option linter.unusedVariables false
set_option linter.unusedSimpArgs false
open Go Go.RowKit
section
variable {κ : Type} [DecidableEq κ] {mk : κ → Value} {P : Program} {kt : TypeId}
structure KeyG (P : Program) (kt : TypeId) (mk : κ → Value) : Prop where
  find : ∀ (a : κ) (l : List (κ × Value)) (w : World), (Instr.findKey kt (mk a) (entsFrom mk 0 l)).run P w = .ok (aFind a l 0) w
  check : ∀ (e : Bool) (a : κ) (w : World), (Instr.checkKey e 10000 kt (mk a)).run P w = .ok () w
  bits : ∀ a, Instr.sameBits 10000 (mk a) (mk a) = true
theorem run_mlookupG (K : KeyG P kt mk) {t e : TypeId} (ht : P.underlying t = some (.map kt e)) {z : Value} (a : κ) {l : List (κ × Value)} {w : World} (hz : (zeroValue e).run P w = .ok z w) {b : Nat} (hb : w.heap[b]? = some (mObj mk l)) : (Instr.lookup t (.map (some b)) (mk a) false).run P w = .ok ((aGet a l).getD z) w := by
  have hg : (getObj b).run P w = .ok (mObj mk l) w := MapKept.run_getObj_map hb
  unfold Instr.lookup
  simp only [Sem.run_bind, run_underlying ht w, Result.andThen_ok, hg, mObj, Sem.run_pure, K.check, List.toList_toArray, K.find]
  unfold aGet
  cases aFind a l 0 with
  | none => simp [hz]
  | some p => obtain ⟨i, v⟩ := p; simp
theorem run_mputG (K : KeyG P kt mk) {t e : TypeId} (ht : P.underlying t = some (.map kt e)) (a : κ) (v : Value) {l : List (κ × Value)} {w : World} {b : Nat} (hb : w.heap[b]? = some (mObj mk l)) : (Instr.mapUpdate t (.map (some b)) (mk a) v).run P w = .ok () (w.putObj b (mObj mk (aPut a v l))) := by
  have hg : (getObj b).run P w = .ok (mObj mk l) w := MapKept.run_getObj_map hb
  have hsz : b < w.heap.size := (Array.getElem?_eq_some_iff.1 hb).1
  have hset : ∀ o, (setObj b o).run P w = .ok () (w.putObj b o) := fun o => MapKept.run_setObj_map o hb
  unfold Instr.mapUpdate
  simp only [Sem.run_bind, run_underlying ht w, Result.andThen_ok, hg, mObj, K.check, List.toList_toArray, K.find]
  unfold aPut
  cases hf : aFind a l 0 with
  | none =>
    simp only [hset]
    congr 2
    try unfold mObj
    congr 1
    · apply Array.toList_inj.1
      apply List.ext_getElem?
      intro i
      simp only [Array.toList_push, List.toList_toArray]
      rw [List.getElem?_append, entsFrom_get, entsFrom_get, List.getElem?_append]
      have : (entsFrom mk 0 l).length = l.length := by unfold entsFrom; simp
      rw [this]
      by_cases h : i < l.length
      · simp [h]
      · by_cases h2 : i = l.length
        · subst h2; simp
        · rw [if_neg h, if_neg h]
          rw [List.getElem?_eq_none (by simp; omega), List.getElem?_eq_none (by simp; omega)]; rfl
    · simp
  | some p =>
    obtain ⟨i, u⟩ := p
    have hi := (aFind_some hf).2
    rw [Nat.sub_zero] at hi
    have hk : ((entsFrom mk 0 l).toArray[i]?.map (·.key)).getD (mk a) = mk a := by
      rw [List.getElem?_toArray, entsFrom_get, hi]; rfl
    simp only [hk, Instr.keyThatStays, K.bits, if_true, Sem.run_bind, Sem.run_pure, Result.andThen_ok, hset]
    congr 2
    try unfold mObj
    congr 1
    · apply Array.ext_getElem?
      intro j
      rw [Array.getElem?_modify, List.getElem?_toArray, List.getElem?_toArray, entsFrom_get, entsFrom_get, List.getElem?_set]
      by_cases h : i = j
      · subst h
        rw [if_pos rfl, if_pos rfl, hi, if_pos (by exact (List.getElem?_eq_some_iff.1 hi).1)]; rfl
      · rw [if_neg h, if_neg h]
    · simp
theorem run_findAsking (heq : ∀ (a b : κ) (w : World), (Op.equal kt (mk a) (mk b)).run P w = .ok (decide (a = b)) w) (a : κ) (w : World) : ∀ (l : List (κ × Value)) (i j : Nat), (Instr.findAsking kt (mk a) (entsFrom mk j l) i).run P w = .ok (aFind a l i) w
  | [], _, _ => rfl
  | (k, v) :: r, i, j => by
    show (Instr.findAsking kt (mk a) (⟨mk k, v, j⟩ :: entsFrom mk (j + 1) r) i).run P w = _
    unfold Instr.findAsking aFind
    simp only [Sem.run_bind, heq, Result.andThen_ok]
    by_cases h : a = k
    · simp [h]
    · simp only [h, decide_false, Bool.false_eq_true, if_false]; exact run_findAsking heq a w r (i + 1) (j + 1)
theorem run_findG {kd : TypeDesc} (hu : P.underlying kt = some kd) (hno : ∀ a b, Instr.sameNow kd (mk a) (mk b) = none) (heq : ∀ (a b : κ) (w : World), (Op.equal kt (mk a) (mk b)).run P w = .ok (decide (a = b)) w) (a : κ) (l : List (κ × Value)) (w : World) : (Instr.findKey kt (mk a) (entsFrom mk 0 l)).run P w = .ok (aFind a l 0) w := by
  unfold Instr.findKey
  rw [Sem.run_bind, run_underlying hu w]
  simp only [Result.andThen_ok]
  cases l with
  | nil => rfl
  | cons p r =>
    obtain ⟨k, v⟩ := p
    have : Instr.findNow kd (mk a) (entsFrom mk 0 ((k, v) :: r)) 0 = none := by
      show Instr.findNow kd (mk a) (⟨mk k, v, 0⟩ :: entsFrom mk 1 r) 0 = none
      unfold Instr.findNow
      simp only [hno]
    rw [this]
    exact run_findAsking heq a w ((k, v) :: r) 0 0
end
section
variable {P : Program} {n : FK} {w0 w w' : World} {H0 H H' : Hp} {Q : Exit → Act → World → Prop} {env : List (Nat × Value)} {L L' : List Loc} {ops rest : List Oper} {κ : Type} [DecidableEq κ] {mk : κ → Value} {kt : TypeId}
theorem V.mlookupG [Tys P] {t e : TypeId} {x y : Operand} {b : Nat} {k ke : TyK} {l : List (κ × Value)} {c : Value} (a : κ) (hk : tyk P t = some k) (hd : k.desc = .map kt e) (hke : tyk P e = some ke) (K : KeyG P kt mk) (hx : ev env x = some (.map (some b))) (hy : ev env y = some (mk a))
    (hm : Loc.any b (mObj mk l) ∈ L) (hc : (aGet a l).getD ke.zero = c) : V P n (St w0 H0 H L) env (.lookup t x y false) c :=
  ⟨fun o a' w ho hf hs => by
    obtain ⟨d, hd1, hd2⟩ := (tyk_ok hk).und
    rw [hd] at hd2
    simp only [TyD.fits] at hd2
    subst hd2
    have := run_mlookupG K hd1 a ((tyk_ok hke).zeroRun w) (hs.ok _ hm).2
    unfold execOp
    rw [ho]
    simp only [hf.ev hx, hf.ev hy, Sem.run_bind, this, hc]
    rfl⟩
theorem X.mputG [Tys P] {t e ty : TypeId} {x y z : Operand} {b : Nat} {k : TyK} {pos : String} {after : Array Edge} {g : Option (Nat × Bool)} {l : List (κ × Value)} {v : Value} (i : Nat) (a : κ) (hk : tyk P t = some k) (hd : k.desc = .map kt e) (K : KeyG P kt mk) (hx : ev env x = some (.map (some b))) (hy : ev env y = some (mk a)) (hz : ev env z = some v)
    (hi : L[i]? = some (.any b (mObj mk l))) {L' : List Loc} (hL : L.set i (.any b (mObj mk (aPut a v l))) = L') : X P n w0 H0 env H L ⟨none, .mapUpdate t x y z, ty, pos, after, g⟩ false (G := Unit) (fun _ => True) (fun _ => env) (fun _ => H) (fun _ => L') :=
  ⟨fun a' w hf hs K' Q hK => by
    obtain ⟨d, hd1, hd2⟩ := (tyk_ok hk).und
    rw [hd] at hd2
    simp only [TyD.fits] at hd2
    subst hd2
    have hrun := run_mputG K hd1 a v (hs.ok _ (List.mem_of_getElem? hi)).2
    unfold Oper.wp
    have : (execOp a'.eval ⟨none, .mapUpdate t x y z, ty, pos, after, g⟩).run P w = .ok .skip (w.putObj b (mObj mk (aPut a v l))) := by
      unfold execOp
      simp only [hf.ev hx, hf.ev hy, hf.ev hz, Sem.run_bind, hrun]
      rfl
    rw [this]
    subst hL
    exact hK () _ _ trivial (fun h => by cases h) (hf.put_none _) (hs.putObj _ hi)⟩
end
end Go.Proofs.YthabgdbhgcgemaaGreatDoor
namespace Go.Proofs.YthabgdbhgcgemaaGreatDoor
set_option linter.unusedVariables false
set_option linter.unusedSimpArgs false
open Go
structure KeyC where
  n : Int
  alg : Int
  deriving DecidableEq
end Go.Proofs.YthabgdbhgcgemaaGreatDoor
namespace Go.Proofs.YthabgdbhgcgemaaGreatDoor
set_option linter.unusedVariables false
set_option linter.unusedSimpArgs false
open Go Go.RowKit
open Enc (enc)
set_option linter.unusedSectionVars false
instance : Enc UInt8 where
  size := 1
  enc c := [.int .u8 c.toNat]
  good _ _ := True
  len _ := rfl
  mono _ h := h
  one _ := rfl
  pos := by decide
end Go.Proofs.YthabgdbhgcgemaaGreatDoor
namespace Go.Proofs.YthabgdbhgcgemaaGreatDoor
set_option linter.unusedVariables false
set_option linter.unusedSimpArgs false
open Go Go.RowKit
open Enc (enc)
section
variable {P : Program} {n : FK} {w0 : World} {H0 H : Hp} {Q : Exit → Act → World → Prop} {env : List (Nat × Value)} {L : List Loc} {ops rest : List Oper} {α : Type} [Enc α]
theorem TL.frzRowE (i : Nat) {v : Value} {e : TypeId} {size m : Nat} (els : List α) {xs : List Value} (hi : L[i]? = some (.row v e size m xs)) (hsz : size = Enc.size α) (hx : xs = encs els) (hm : els.length = m) (hg : ∀ x ∈ els, Enc.good H x) (h : ∀ (H' : Hp) (s : Slc α), s.v = v → s.els = els → s.Good H' → H.le H' → TL P n w0 H0 ops Q rest env H' (L.eraseIdx i)) : TL P n w0 H0 ops Q rest env H L := by
  subst hx
  exact TL.frzRow i hi hsz hm hg h
end
end Go.Proofs.YthabgdbhgcgemaaGreatDoor
namespace Go.Proofs.YthabgdbhgcgemaaGreatDoor
set_option linter.unusedVariables false
set_option linter.unusedSimpArgs false
open Go Go.RowKit
open Enc (enc)
end Go.Proofs.YthabgdbhgcgemaaGreatDoor
namespace Go.Proofs.YthabgdbhgcgemaaGreatDoor
set_option linter.unusedVariables false
set_option linter.unusedSimpArgs false
open Go Go.RowKit
open Enc (enc)
section
variable {P : Program} {n : FK} {w0 w w' : World} {H0 H H' : Hp} {Q : Exit → Act → World → Prop} {env : List (Nat × Value)} {L L' : List Loc} {ops rest : List Oper} {κ : Type} [DecidableEq κ] {mk : κ → Value} {kt : TypeId}
theorem run_mlookupOkG (K : KeyG P kt mk) {t e : TypeId} (ht : P.underlying t = some (.map kt e)) {z : Value} (a : κ) {l : List (κ × Value)} {w : World} (hz : (zeroValue e).run P w = .ok z w) {b : Nat} (hb : w.heap[b]? = some (mObj mk l)) : (Instr.lookup t (.map (some b)) (mk a) true).run P w = .ok (.tuple #[(aGet a l).getD z, .bool (aGet a l).isSome]) w := by
  have hg : (getObj b).run P w = .ok (mObj mk l) w := MapKept.run_getObj_map hb
  unfold Instr.lookup
  simp only [Sem.run_bind, run_underlying ht w, Result.andThen_ok, hg, mObj, Sem.run_pure, K.check, List.toList_toArray, K.find]
  unfold aGet
  cases aFind a l 0 with
  | none => simp [hz]
  | some p => obtain ⟨i, v⟩ := p; simp
theorem V.mlookupOkS [Tys P] {S : World → Prop} {t e : TypeId} {x y : Operand} {b : Nat} {k ke : TyK} {l : List (κ × Value)} {c : Value} {f : Bool} (a : κ) (hk : tyk P t = some k) (hd : k.desc = .map kt e) (hke : tyk P e = some ke) (K : KeyG P kt mk) (hx : ev env x = some (.map (some b))) (hy : ev env y = some (mk a))
    (hm : ∀ w, S w → w.heap[b]? = some (mObj mk l)) (hc : (aGet a l).getD ke.zero = c) (hf' : (aGet a l).isSome = f) : V P n S env (.lookup t x y true) (.tuple #[c, .bool f]) :=
  ⟨fun o a' w ho hf hs => by
    obtain ⟨d, hd1, hd2⟩ := (tyk_ok hk).und
    rw [hd] at hd2
    simp only [TyD.fits] at hd2
    subst hd2
    have := run_mlookupOkG K hd1 a ((tyk_ok hke).zeroRun w) (hm w hs)
    unfold execOp
    rw [ho]
    simp only [hf.ev hx, hf.ev hy, Sem.run_bind, this, hc, hf']
    rfl⟩
theorem V.mlookupOkH [Tys P] {t e : TypeId} {x y : Operand} {b : Nat} {k ke : TyK} {l : List (κ × Value)} {c : Value} {f : Bool} (a : κ) (hk : tyk P t = some k) (hd : k.desc = .map kt e) (hke : tyk P e = some ke) (K : KeyG P kt mk) (hx : ev env x = some (.map (some b))) (hy : ev env y = some (mk a))
    (hm : H b = some (mObj mk l)) (hc : (aGet a l).getD ke.zero = c) (hf' : (aGet a l).isSome = f) : V P n (St w0 H0 H L) env (.lookup t x y true) (.tuple #[c, .bool f]) :=
  V.mlookupOkS a hk hd hke K hx hy (fun w hs => hs.sat _ _ hm) hc hf'
theorem T.frzAny {c : Code} (i : Nat) {b : Nat} {o : Obj} (hi : L[i]? = some (.any b o)) (h : ∀ H' : Hp, H' b = some o → H.le H' → T P n w0 H0 c Q env H' (L.eraseIdx i)) : T P n w0 H0 c Q env H L := by
  refine T.perm _ (perm_of hi) ⟨fun a w hf hs => ?_⟩
  have hb := (hs.ok _ (List.Mem.head _)).2
  have hout := hs.out _ (List.Mem.head _) b rfl
  exact (h (H.put b o) (by unfold Hp.put; rw [if_pos rfl]) (Hp.put_le H o hout)).out a w hf (hs.freeze rfl hb)
theorem X.callG {G : Type} {φ : G → Prop} {v : G → Value} {d : Nat} {f : FuncId} {args : Array Operand} {tys : Array TypeId} {ty : TypeId} {pos : String} {after : Array Edge} {g : Option (Nat × Bool)} {vs : List Value} (us : List Value)
    (hcall : ∀ (args : Array Value) (w : World), (callFunc f args).run P w = .ok (.enter f args) w) (hn : Nat.blt d n.n = true)
    (hargs : evs env args.toList = some vs) (he : vs = us) (hc : ∀ w, St w0 H0 H L w → Calls P f us.toArray w (fun e w' => ∃ g, φ g ∧ e = .returned (v g) ∧ Below w.heap.size w w')) :
    X P n w0 H0 env H L ⟨some d, .call { callee := .value (.func f), args := args, argTypes := tys }, ty, pos, after, g⟩ true (G := G) φ (fun g => (d, v g) :: env) (fun _ => H) (fun _ => L) := by
  subst he
  exact ⟨fun a w hf hs K Q hK => by
    unfold Oper.wp
    rw [run_call rfl (by rfl) (hf.evs hargs) hcall]
    have hc' : Calls P f (#[] ++ vs.toArray ++ #[]) w (fun e w' => ∃ g, φ g ∧ e = .returned (v g) ∧ Below w.heap.size w w') := by simpa using hc w hs
    refine Calls.mono hc' fun e w' ⟨g, hg, he, hb⟩ => ?_
    subst he
    exact hK g _ _ hg (fun _ => hb) (hf.put hn _) (hs.grow hb)⟩
end
def qV (q : Question) : Value := .agg (enc q).toArray
theorem checkS {P : Program} {t : TypeId} (h : P.underlying t = some .string) (e : Bool) (a : Bytes) (w : World) : (Instr.checkKey e 9999 t (strV a)).run P w = .ok () w := by
  unfold Instr.checkKey
  rw [Sem.run_bind, run_underlying h w]; rfl
theorem checkI {P : Program} {t : TypeId} (h : P.underlying t = some (.int .i64)) (e : Bool) (a : Int) (w : World) : (Instr.checkKey e 9999 t (intV a)).run P w = .ok () w := by
  unfold Instr.checkKey
  rw [Sem.run_bind, run_underlying h w]; rfl
theorem key_q : KeyG Tryz.prog 91 qV where
  find := run_findG (kd := .struct (Tryz.prog.fieldsOf 91)) (by kernel_rfl) (fun _ _ => rfl) (fun a b w => eq_Question a b w)
  check := fun e a w => by
    have hS : Tryz.prog.underlying 91 = some (.struct (Tryz.prog.fieldsOf 91)) := by kernel_rfl
    obtain ⟨a1, a2⟩ := a
    show (Instr.checkKey e 10000 91 (.agg #[strV a1, intV a2])).run Tryz.prog w = .ok () w
    rw [show (10000 : Nat) = 9999 + 1 from rfl, Instr.checkKey]
    simp only [Sem.run_bind, run_underlying hS, Result.andThen_ok]
    rw [← Array.forIn_toList]
    simp only [Program.fieldsOf, Tryz.underlying91, List.toList_toArray]
    have p1 : (part 9 #[strV a1, intV a2] 0).run Tryz.prog w = .ok (strV a1) w := run_part rfl rfl rfl w
    have p2 : (part 3 #[strV a1, intV a2] 1).run Tryz.prog w = .ok (intV a2) w := run_part rfl rfl rfl w
    simp [List.forIn_cons, Sem.run_bind, p1, p2, checkS Tryz.underlying9, checkI Tryz.underlying3]
  bits := fun a => by
    have hs : ∀ x : Bytes, Instr.sameBits 9999 (strV x) (strV x) = true := fun x => by
      simp only [Instr.sameBits]; rw [beq_toListBytes, bytes_eq]; simp
    have hi : ∀ x : Int, Instr.sameBits 9999 (intV x) (intV x) = true := fun x => by simp [Instr.sameBits]
    show ((2 : Nat) == 2 && (Instr.sameBits 9999 (strV a.name) (strV a.name) && (Instr.sameBits 9999 (intV a.typ) (intV a.typ) && true))) = true
    rw [hs, hi]; rfl
end Go.Proofs.YthabgdbhgcgemaaGreatDoor
