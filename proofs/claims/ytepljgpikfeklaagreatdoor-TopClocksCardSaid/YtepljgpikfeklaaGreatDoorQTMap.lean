import Derived.Test.YtepljgpikfeklaaGreatDoorQTy
import Derived.Laws.StructEq
import Derived.Test.YtepljgpikfeklaaGreatDoorQEngC
import Derived.Test.YtepljgpikfeklaaGreatDoorQData
import Derived.Lib.AppendStr
import Derived.Lib.ConvBytes
namespace Go.Proofs.YtepljgpikfeklaaGreatDoor
set_option linter.unusedVariables false
set_option linter.unusedSimpArgs false
open Go Go.RowKit
open Enc (enc)
set_option maxRecDepth 20000
section
variable {P : Program} {n : FK} {S : World → Prop} {env : List (Nat × Value)}
theorem V.aeql {t u : TypeId} {x y : Operand} {xs ys : Array Value} {e : Bool} (hx : ev env x = some (.agg xs)) (hy : ev env y = some (.agg ys)) (hg : P.eqGuardType P.depth t = false) (he : ∀ w, (Op.equalIn 10000 t (.agg xs) (.agg ys)).run P w = .ok e w) : V P n S env (.binOp .eql t x y u) (.bool e) :=
  ⟨fun o a w ho hf _ => by unfold execOp; rw [ho]; simp only [hf.ev hx, hf.ev hy, Sem.run_bind, run_eqGuard_agg w .eql t _ _ xs ys hg, Result.andThen_ok, run_eql_struct, he]; simp⟩
theorem V.aneq {t u : TypeId} {x y : Operand} {xs ys : Array Value} {e : Bool} (hx : ev env x = some (.agg xs)) (hy : ev env y = some (.agg ys)) (hg : P.eqGuardType P.depth t = false) (he : ∀ w, (Op.equalIn 10000 t (.agg xs) (.agg ys)).run P w = .ok e w) : V P n S env (.binOp .neq t x y u) (.bool (!e)) :=
  ⟨fun o a w ho hf _ => by unfold execOp; rw [ho]; simp only [hf.ev hx, hf.ev hy, Sem.run_bind, run_eqGuard_agg w .neq t _ _ xs ys hg, Result.andThen_ok, run_neq_struct, he]; simp⟩
theorem run_part [Tys P] {t : TypeId} {k : TyK} (hk : tyk P t = some k) (ha : k.desc.agg = false) {xs : Array Value} {o : Nat} {v : Value} (hv : xs[o]? = some v) (w : World) : (part t xs o).run P w = .ok v w := by
  unfold part
  have := (tyk_ok hk).isAgg w
  rw [ha] at this
  simp [Sem.run_bind, this, hv]
theorem eqF_nil {d : Nat} {xs ys : Array Value} {w : World} : (Op.eqFields d xs ys []).run P w = .ok true w := rfl
theorem eqF_cons [Tys P] {d : Nat} {xs ys : Array Value} {w : World} {f : Field} {fs : List Field} {k : TyK} {a b : Value} {e r : Bool} (hn : f.name ≠ "_") (hk : tyk P f.type = some k) (ha : k.desc.agg = false) (hx : xs[f.offset]? = some a) (hy : ys[f.offset]? = some b)
    (he : (Op.equalIn d f.type a b).run P w = .ok e w) (hr : (Op.eqFields d xs ys fs).run P w = .ok r w) : (Op.eqFields d xs ys (f :: fs)).run P w = .ok (e && r) w := by
  unfold Op.eqFields
  rw [if_pos hn]
  simp only [Sem.run_bind, run_part hk ha hx, run_part hk ha hy, Result.andThen_ok, he]
  cases e <;> simp [hr]
theorem eqI [Tys P] {d : Nat} {w : World} {t : TypeId} {k : IntKind} {a b : Int} (h : P.underlying t = some (.int k)) : (Op.equalIn (d + 1) t (.int k a) (.int k b)).run P w = .ok (decide (a = b)) w := by
  rw [run_equalIn_int w d t k k a b h]
  congr 1
theorem eqS [Tys P] {d : Nat} {w : World} {t : TypeId} {a b : Bytes} (h : P.underlying t = some .string) : (Op.equalIn (d + 1) t (strV a) (strV b)).run P w = .ok (decide (a = b)) w := by
  rw [run_equalIn_string w d t _ _ h, bytes_eq]
end
theorem eq_Datum (a b : Datum) (w : World) : (Op.equalIn 10000 101 (.agg (enc a).toArray) (.agg (enc b).toArray)).run Tryz.prog w = .ok (decide (a = b)) w := by
  have hS : Tryz.prog.underlying 101 = some (.struct (Tryz.prog.fieldsOf 101)) := by kernel_rfl
  rw [show (10000 : Nat) = 9999 + 1 from rfl, run_equalIn_agg w 9999 101 _ _ hS Tryz.stoodInHeld101]
  simp only [Program.fieldsOf, Tryz.underlying101]
  have e : decide (a = b) = (decide (a.text = b.text) && (decide (a.n = b.n) && (decide (a.m = b.m) && true))) := by
    rw [Bool.eq_iff_iff]; cases a; cases b; simp
  rw [e]
  refine eqF_cons (by decide) rfl rfl rfl rfl (eqS Tryz.underlying9) ?_
  refine eqF_cons (by decide) rfl rfl rfl rfl (eqI Tryz.underlying3) ?_
  refine eqF_cons (by decide) rfl rfl rfl rfl (eqI Tryz.underlying3) ?_
  exact eqF_nil
theorem eq_Sig (a b : Sig) (w : World) : (Op.equalIn 10000 79 (.agg (enc a).toArray) (.agg (enc b).toArray)).run Tryz.prog w = .ok (decide (a = b)) w := by
  have hS : Tryz.prog.underlying 79 = some (.struct (Tryz.prog.fieldsOf 79)) := by kernel_rfl
  rw [show (10000 : Nat) = 9999 + 1 from rfl, run_equalIn_agg w 9999 79 _ _ hS Tryz.stoodInHeld79]
  simp only [Program.fieldsOf, Tryz.underlying79]
  have e : decide (a = b) = (decide (a.zone = b.zone) && (decide (a.key = b.key) && (decide (a.alg = b.alg) && (decide (a.frm = b.frm) && (decide (a.til = b.til) && (decide (a.sum = b.sum) && true)))))) := by
    rw [Bool.eq_iff_iff]; cases a; cases b; simp
  rw [e]
  refine eqF_cons (by decide) rfl rfl rfl rfl (eqS Tryz.underlying9) ?_
  refine eqF_cons (by decide) rfl rfl rfl rfl (eqI Tryz.underlying3) ?_
  refine eqF_cons (by decide) rfl rfl rfl rfl (eqI Tryz.underlying3) ?_
  refine eqF_cons (by decide) rfl rfl rfl rfl (eqI Tryz.underlying3) ?_
  refine eqF_cons (by decide) rfl rfl rfl rfl (eqI Tryz.underlying3) ?_
  refine eqF_cons (by decide) rfl rfl rfl rfl (eqI Tryz.underlying77) ?_
  exact eqF_nil
end Go.Proofs.YtepljgpikfeklaaGreatDoor
namespace Go.Proofs.YtepljgpikfeklaaGreatDoor
set_option linter.unusedVariables false
set_option linter.unusedSimpArgs false
open Go Go.RowKit
section
variable {κ : Type} [DecidableEq κ] {mk : κ → Value} {P : Program} {kt : TypeId}
structure KeyG (P : Program) (kt : TypeId) (mk : κ → Value) : Prop where
  find : ∀ (a : κ) (l : List (κ × Value)) (w : World), (Instr.findKey kt (mk a) (entsFrom mk 0 l)).run P w = .ok (aFind a l 0) w
  check : ∀ (e : Bool) (a : κ) (w : World), (Instr.checkKey e 10000 kt (mk a)).run P w = .ok () w
  bits : ∀ a, Instr.sameBits 10000 (mk a) (mk a) = true
theorem run_mlookupG (K : KeyG P kt mk) {t e : TypeId} (ht : P.underlying t = some (.map kt e)) {z : Value} (a : κ) {l : List (κ × Value)} {w : World} (hz : (zeroValue e).run P w = .ok z w) {b : Nat} (hb : w.heap[b]? = some (mObj mk l)) : (Instr.lookup t (.map (some b)) (mk a) false).run P w = .ok ((aGet a l).getD z) w := by
  have hg : (getObj b).run P w = .ok (mObj mk l) w := MapKept.run_getObj_map hb
  unfold Instr.lookup
  simp only [Sem.run_bind, run_underlying ht w, Result.andThen_ok, hg, mObj, Sem.run_pure, K.check, List.toList_toArray, K.find]
  unfold aGet
  cases aFind a l 0 with
  | none => simp [hz]
  | some p => obtain ⟨i, v⟩ := p; simp
theorem run_mputG (K : KeyG P kt mk) {t e : TypeId} (ht : P.underlying t = some (.map kt e)) (a : κ) (v : Value) {l : List (κ × Value)} {w : World} {b : Nat} (hb : w.heap[b]? = some (mObj mk l)) : (Instr.mapUpdate t (.map (some b)) (mk a) v).run P w = .ok () (w.putObj b (mObj mk (aPut a v l))) := by
  have hg : (getObj b).run P w = .ok (mObj mk l) w := MapKept.run_getObj_map hb
  have hsz : b < w.heap.size := (Array.getElem?_eq_some_iff.1 hb).1
  have hset : ∀ o, (setObj b o).run P w = .ok () (w.putObj b o) := fun o => MapKept.run_setObj_map o hb
  unfold Instr.mapUpdate
  simp only [Sem.run_bind, run_underlying ht w, Result.andThen_ok, hg, mObj, K.check, List.toList_toArray, K.find]
  unfold aPut
  cases hf : aFind a l 0 with
  | none =>
    simp only [hset]
    congr 2
    try unfold mObj
    congr 1
    · apply Array.toList_inj.1
      apply List.ext_getElem?
      intro i
      simp only [Array.toList_push, List.toList_toArray]
      rw [List.getElem?_append, entsFrom_get, entsFrom_get, List.getElem?_append]
      have : (entsFrom mk 0 l).length = l.length := by unfold entsFrom; simp
      rw [this]
      by_cases h : i < l.length
      · simp [h]
      · by_cases h2 : i = l.length
        · subst h2; simp
        · rw [if_neg h, if_neg h]
          rw [List.getElem?_eq_none (by simp; omega), List.getElem?_eq_none (by simp; omega)]; rfl
    · simp
  | some p =>
    obtain ⟨i, u⟩ := p
    have hi := (aFind_some hf).2
    rw [Nat.sub_zero] at hi
    have hk : ((entsFrom mk 0 l).toArray[i]?.map (·.key)).getD (mk a) = mk a := by
      rw [List.getElem?_toArray, entsFrom_get, hi]; rfl
    simp only [hk, Instr.keyThatStays, K.bits, if_true, Sem.run_bind, Sem.run_pure, Result.andThen_ok, hset]
    congr 2
    try unfold mObj
    congr 1
    · apply Array.ext_getElem?
      intro j
      rw [Array.getElem?_modify, List.getElem?_toArray, List.getElem?_toArray, entsFrom_get, entsFrom_get, List.getElem?_set]
      by_cases h : i = j
      · subst h
        rw [if_pos rfl, if_pos rfl, hi, if_pos (by exact (List.getElem?_eq_some_iff.1 hi).1)]; rfl
      · rw [if_neg h, if_neg h]
    · simp
theorem run_findAsking (heq : ∀ (a b : κ) (w : World), (Op.equal kt (mk a) (mk b)).run P w = .ok (decide (a = b)) w) (a : κ) (w : World) : ∀ (l : List (κ × Value)) (i j : Nat), (Instr.findAsking kt (mk a) (entsFrom mk j l) i).run P w = .ok (aFind a l i) w
  | [], _, _ => rfl
  | (k, v) :: r, i, j => by
    show (Instr.findAsking kt (mk a) (⟨mk k, v, j⟩ :: entsFrom mk (j + 1) r) i).run P w = _
    unfold Instr.findAsking aFind
    simp only [Sem.run_bind, heq, Result.andThen_ok]
    by_cases h : a = k
    · simp [h]
    · simp only [h, decide_false, Bool.false_eq_true, if_false]; exact run_findAsking heq a w r (i + 1) (j + 1)
theorem run_findG {kd : TypeDesc} (hu : P.underlying kt = some kd) (hno : ∀ a b, Instr.sameNow kd (mk a) (mk b) = none) (heq : ∀ (a b : κ) (w : World), (Op.equal kt (mk a) (mk b)).run P w = .ok (decide (a = b)) w) (a : κ) (l : List (κ × Value)) (w : World) : (Instr.findKey kt (mk a) (entsFrom mk 0 l)).run P w = .ok (aFind a l 0) w := by
  unfold Instr.findKey
  rw [Sem.run_bind, run_underlying hu w]
  simp only [Result.andThen_ok]
  cases l with
  | nil => rfl
  | cons p r =>
    obtain ⟨k, v⟩ := p
    have : Instr.findNow kd (mk a) (entsFrom mk 0 ((k, v) :: r)) 0 = none := by
      show Instr.findNow kd (mk a) (⟨mk k, v, 0⟩ :: entsFrom mk 1 r) 0 = none
      unfold Instr.findNow
      simp only [hno]
    rw [this]
    exact run_findAsking heq a w ((k, v) :: r) 0 0
end
section
variable {P : Program} {n : FK} {w0 w w' : World} {H0 H H' : Hp} {Q : Exit → Act → World → Prop} {env : List (Nat × Value)} {L L' : List Loc} {ops rest : List Oper} {κ : Type} [DecidableEq κ] {mk : κ → Value} {kt : TypeId}
theorem V.mlookupG [Tys P] {t e : TypeId} {x y : Operand} {b : Nat} {k ke : TyK} {l : List (κ × Value)} {c : Value} (a : κ) (hk : tyk P t = some k) (hd : k.desc = .map kt e) (hke : tyk P e = some ke) (K : KeyG P kt mk) (hx : ev env x = some (.map (some b))) (hy : ev env y = some (mk a))
    (hm : Loc.any b (mObj mk l) ∈ L) (hc : (aGet a l).getD ke.zero = c) : V P n (St w0 H0 H L) env (.lookup t x y false) c :=
  ⟨fun o a' w ho hf hs => by
    obtain ⟨d, hd1, hd2⟩ := (tyk_ok hk).und
    rw [hd] at hd2
    simp only [TyD.fits] at hd2
    subst hd2
    have := run_mlookupG K hd1 a ((tyk_ok hke).zeroRun w) (hs.ok _ hm).2
    unfold execOp
    rw [ho]
    simp only [hf.ev hx, hf.ev hy, Sem.run_bind, this, hc]
    rfl⟩
theorem X.mputG [Tys P] {t e ty : TypeId} {x y z : Operand} {b : Nat} {k : TyK} {pos : String} {after : Array Edge} {g : Option (Nat × Bool)} {l : List (κ × Value)} {v : Value} (i : Nat) (a : κ) (hk : tyk P t = some k) (hd : k.desc = .map kt e) (K : KeyG P kt mk) (hx : ev env x = some (.map (some b))) (hy : ev env y = some (mk a)) (hz : ev env z = some v)
    (hi : L[i]? = some (.any b (mObj mk l))) {L' : List Loc} (hL : L.set i (.any b (mObj mk (aPut a v l))) = L') : X P n w0 H0 env H L ⟨none, .mapUpdate t x y z, ty, pos, after, g⟩ false (G := Unit) (fun _ => True) (fun _ => env) (fun _ => H) (fun _ => L') :=
  ⟨fun a' w hf hs K' Q hK => by
    obtain ⟨d, hd1, hd2⟩ := (tyk_ok hk).und
    rw [hd] at hd2
    simp only [TyD.fits] at hd2
    subst hd2
    have hrun := run_mputG K hd1 a v (hs.ok _ (List.mem_of_getElem? hi)).2
    unfold Oper.wp
    have : (execOp a'.eval ⟨none, .mapUpdate t x y z, ty, pos, after, g⟩).run P w = .ok .skip (w.putObj b (mObj mk (aPut a v l))) := by
      unfold execOp
      simp only [hf.ev hx, hf.ev hy, hf.ev hz, Sem.run_bind, hrun]
      rfl
    rw [this]
    subst hL
    exact hK () _ _ trivial (fun h => by cases h) (hf.put_none _) (hs.putObj _ hi)⟩
end
end Go.Proofs.YtepljgpikfeklaaGreatDoor
namespace Go.Proofs.YtepljgpikfeklaaGreatDoor
set_option linter.unusedVariables false
set_option linter.unusedSimpArgs false
open Go
structure KeyC where
  n : Int
  alg : Int
  deriving DecidableEq
end Go.Proofs.YtepljgpikfeklaaGreatDoor
namespace Go.Proofs.YtepljgpikfeklaaGreatDoor
set_option linter.unusedVariables false
set_option linter.unusedSimpArgs false
open Go Go.RowKit
open Enc (enc)
set_option linter.unusedSectionVars false
instance : Enc UInt8 where
  size := 1
  enc c := [.int .u8 c.toNat]
  good _ _ := True
  len _ := rfl
  mono _ h := h
  one _ := rfl
  pos := by decide
theorem strCells_encs (l : Bytes) : Lib.strCells ⟨l.toArray⟩ = encs l := by
  simp only [Lib.strCells, encs]
  induction l with
  | nil => rfl
  | cons c l ih =>
    simp only [List.map_cons, List.flatMap_cons]
    rw [ih]
    rfl
abbrev byR (e : TypeId) (v : Value) (l : Bytes) : Loc := .row v e 1 l.length (encs l)
section
variable {P : Program} {n : FK} {w0 : World} {H0 H : Hp} {S : World → Prop} {env : List (Nat × Value)} {L : List Loc}
theorem X.appendBy [Tys P] (i : Nat) {d : Nat} {t e ty : TypeId} {x y : Operand} {pos : String} {after : Array Edge} {g : Option (Nat × Bool)} {k ke : TyK} {v : Value} {c b : Nat} {l : Bytes} {u : UInt8} {T' : TypeId} (hn : Nat.blt d n.n = true) (hk : tyk P t = some k) (hd : k.desc = .slice e) (hke : tyk P e = some ke) (h1 : ke.size = 1) (h8 : ke.bytes = 1) (hz : Nat.beq ke.zero.cells.size ke.size = true)
    (hx : ev env x = some v) (hi : L[i]? = some (byR e v l)) (hy : ev env y = some (.slice (some ⟨b, 0, none⟩) 1 c)) (hm : Loc.blk b T' [.int .u8 u.toNat] ∈ L) (hb : l.length ≤ 100000000) :
    X P n w0 H0 env H L ⟨some d, .call { callee := .builtin .append, args := #[x, y], argTypes := #[t, t] }, ty, pos, after, g⟩ false (G := Value) (fun _ => True) (fun v' => (d, v') :: env) (fun _ => H) (fun v' => L.set i (byR e v' (l ++ [u]))) :=
  ⟨fun a w hf hs K Q hK => by
    have hi' : L[i]? = some (.row v e ke.size l.length (encs l)) := by rw [h1]; exact hi
    refine (X.append i (j := 1) (news := [.int .u8 u.toNat]) (pos := pos) (after := after) (g := g) (ty := ty) hn hk hd hke (by rw [h1]; rfl) hz hx hi' hy hm (by rw [h1]; rfl) rfl (by rw [h8]; omega) (by omega)).out a w hf hs K Q fun v' a' w' _ hg' hf' hs' => ?_
    refine hK v' a' w' trivial hg' hf' ?_
    have e1 : byR e v' (l ++ [u]) = .row v' e ke.size (l.length + 1) (encs l ++ [.int .u8 u.toNat]) := by
      simp only [byR, List.length_append, List.length_cons, List.length_nil, encs_append, h1]
      rfl
    rw [e1]
    exact hs'⟩
theorem X.appendStr [Tys P] (i : Nat) {d : Nat} {t e ts ty : TypeId} {x y : Operand} {pos : String} {after : Array Edge} {g : Option (Nat × Bool)} {k ke ks : TyK} {v : Value} {l s : Bytes} (hn : Nat.blt d n.n = true) (hk : tyk P t = some k) (hd : k.desc = .slice e) (hke : tyk P e = some ke) (hks : tyk P ts = some ks) (hds : ks.desc = .str) (h1 : ke.size = 1) (h8 : ke.bytes = 1) (hz : ke.zero = .int .u8 0)
    (hx : ev env x = some v) (hi : L[i]? = some (byR e v l)) (hy : ev env y = some (strV s)) (hb : l.length + s.length ≤ 100000000) :
    X P n w0 H0 env H L ⟨some d, .call { callee := .builtin .append, args := #[x, y], argTypes := #[t, ts] }, ty, pos, after, g⟩ false (G := Value) (fun _ => True) (fun v' => (d, v') :: env) (fun _ => H) (fun v' => L.set i (byR e v' (l ++ s))) :=
  ⟨fun a w hf hs K Q hK => by
    obtain ⟨dd, hu, hf'⟩ := (tyk_ok hk).und
    rw [hd] at hf'
    simp only [TyD.fits] at hf'
    subst hf'
    obtain ⟨ds, hus, hfs⟩ := (tyk_ok hks).und
    rw [hds] at hfs
    simp only [TyD.fits] at hfs
    subst hfs
    obtain ⟨inf, hinf, e1, e2, e3⟩ := (tyk_ok hke).get
    have hown : w.ownsRow w0.heap.size e 1 v l.length (encs l) := hs.ok _ (List.mem_of_getElem? hi)
    have hsz : (⟨s.toArray⟩ : ByteArray).size = s.length := rfl
    obtain ⟨v', w', hrun, hown', hgr, hnil⟩ := Lib.run_append_own_string (P := P) w w0.heap.size t ts ty e inf hu hus hinf (by rw [e3, hz]) (by rw [e1, h1]) (by rw [e2, h8]) v l.length (encs l) hown ⟨s.toArray⟩ (by simp only [hsz, maxLen]; omega) (by rw [hsz]; omega) hs.below.size
    have hat : v'.ownBlock = v.ownBlock ∨ v'.ownBlock = some w.heap.size := by
      have h63 : l.length + (⟨s.toArray⟩ : ByteArray).size ≤ 9223372036854775807 := by rw [hsz]; omega
      rcases hown.2 with ⟨rfl, h0⟩ | ⟨g, cap, cur, rfl, hbg, hg, hnc, hcm, hcs, htake⟩
      · by_cases hm : (⟨s.toArray⟩ : ByteArray).size = 0
        · rw [hnil.2 ⟨rfl, hm⟩]; exact .inl rfl
        · have hr := run_append_nil_string (P := P) w t ts ty e inf (.int .u8 0) hu hus hinf (by rw [e3, hz]) ⟨s.toArray⟩ (by omega) (by omega) (by rw [e2, h8, hsz]; omega)
          rw [hrun] at hr
          cases hr
          exact .inr rfl
      · by_cases hroom : l.length + (⟨s.toArray⟩ : ByteArray).size ≤ cap
        · have hr := Lib.run_append_room_string (P := P) w t ts ty e inf hu hus hinf (by rw [e1, h1]) g l.length cap cur hg ⟨s.toArray⟩ hroom (by rw [hcs]; omega)
          rw [hrun] at hr
          cases hr
          exact .inl rfl
        · have hr := Lib.run_append_grow_string (P := P) w t ts ty e inf (.int .u8 0) hu hus hinf (by rw [e3, hz]) ⟨g, 0, none⟩ l.length cap (encs l) (by rw [e1, h1]; simpa using hown.1) (hown.cells (g := g) rfl) ⟨s.toArray⟩ (by omega) (by omega) (by rw [e2, h8, hsz]; exact growslice_fits (by omega) (by omega))
          rw [hrun] at hr
          cases hr
          exact .inr rfl
    have hst := hs.turn (e' := .row v' e 1 (l.length + s.length) (encs l ++ Lib.strCells ⟨s.toArray⟩)) hi hgr (run_drawn hrun) hat hown'
    unfold Oper.wp
    rw [run_appendOp (v := v) (u := strV s) rfl (hf.ev hx) (hf.ev hy) hrun]
    refine hK v' _ _ trivial (fun h => by cases h) (hf.put hn _) ?_
    have e4 : byR e v' (l ++ s) = .row v' e 1 (l.length + s.length) (encs l ++ Lib.strCells ⟨s.toArray⟩) := by
      simp only [byR, List.length_append, encs_append, strCells_encs]
    rw [e4]
    exact hst⟩
end
end Go.Proofs.YtepljgpikfeklaaGreatDoor
namespace Go.Proofs.YtepljgpikfeklaaGreatDoor
set_option linter.unusedVariables false
set_option linter.unusedSimpArgs false
open Go Go.RowKit
open Enc (enc)
section
variable {P : Program} {n : FK} {w0 : World} {H0 H : Hp} {Q : Exit → Act → World → Prop} {env : List (Nat × Value)} {L : List Loc} {ops rest : List Oper} {α : Type} [Enc α]
theorem TL.frzRowE (i : Nat) {v : Value} {e : TypeId} {size m : Nat} (els : List α) {xs : List Value} (hi : L[i]? = some (.row v e size m xs)) (hsz : size = Enc.size α) (hx : xs = encs els) (hm : els.length = m) (hg : ∀ x ∈ els, Enc.good H x) (h : ∀ (H' : Hp) (s : Slc α), s.v = v → s.els = els → s.Good H' → H.le H' → TL P n w0 H0 ops Q rest env H' (L.eraseIdx i)) : TL P n w0 H0 ops Q rest env H L := by
  subst hx
  exact TL.frzRow i hi hsz hm hg h
end
end Go.Proofs.YtepljgpikfeklaaGreatDoor
namespace Go.Proofs.YtepljgpikfeklaaGreatDoor
set_option linter.unusedVariables false
set_option linter.unusedSimpArgs false
open Go Go.RowKit
open Enc (enc)
section
variable {P : Program} {n : FK} {S : World → Prop} {env : List (Nat × Value)}
theorem V.negE {t : TypeId} {x : Operand} {i M : Int} (hM : IntKind.i64.wrap (-i) = M) (hx : ev env x = some (intV i)) : V P n S env (.unOp .neg t x) (intV M) :=
  ⟨fun o a w ho hf _ => by subst hM; unfold execOp; rw [ho]; simp [hf.ev hx, Op.unary, Op.intArith]⟩
theorem V.addWE {t u : TypeId} {x y : Operand} {i j M : Int} (hM : IntKind.i64.wrap (i + j) = M) (hx : ev env x = some (intV i)) (hy : ev env y = some (intV j)) : V P n S env (.binOp .add t x y u) (intV M) :=
  ⟨fun o a w ho hf _ => by subst hM; unfold execOp; rw [ho]; simp [hf.ev hx, hf.ev hy, binOp, eqGuard, Op.intArith]⟩
theorem V.remG {q : IntKind} {t u : TypeId} {x y : Operand} {i j m : Int} (hx : ev env x = some (.int q i)) (hy : ev env y = some (.int q j)) (hm : i.tmod j = m) (hw : q.wrap m = m) (hj : 0 < j) : V P n S env (.binOp .rem t x y u) (.int q m) :=
  ⟨fun o a w ho hf _ => by
    unfold execOp; rw [ho]
    simp only [hf.ev hx, hf.ev hy, binOp, eqGuard, Op.intDiv]
    simp [show j ≠ 0 by omega, hm, hw]⟩
end
end Go.Proofs.YtepljgpikfeklaaGreatDoor
namespace Go.Proofs.YtepljgpikfeklaaGreatDoor
set_option linter.unusedVariables false
set_option linter.unusedSimpArgs false
open Go Go.RowKit
open Enc (enc)
section
variable {P : Program} {n : FK} {w0 w w' : World} {H0 H H' : Hp} {Q : Exit → Act → World → Prop} {env : List (Nat × Value)} {L L' : List Loc} {ops rest : List Oper} {κ : Type} [DecidableEq κ] {mk : κ → Value} {kt : TypeId}
theorem X.callG {G : Type} {φ : G → Prop} {v : G → Value} {d : Nat} {f : FuncId} {args : Array Operand} {tys : Array TypeId} {ty : TypeId} {pos : String} {after : Array Edge} {g : Option (Nat × Bool)} {vs : List Value} (us : List Value)
    (hcall : ∀ (args : Array Value) (w : World), (callFunc f args).run P w = .ok (.enter f args) w) (hn : Nat.blt d n.n = true)
    (hargs : evs env args.toList = some vs) (he : vs = us) (hc : ∀ w, St w0 H0 H L w → Calls P f us.toArray w (fun e w' => ∃ g, φ g ∧ e = .returned (v g) ∧ Below w.heap.size w w')) :
    X P n w0 H0 env H L ⟨some d, .call { callee := .value (.func f), args := args, argTypes := tys }, ty, pos, after, g⟩ true (G := G) φ (fun g => (d, v g) :: env) (fun _ => H) (fun _ => L) := by
  subst he
  exact ⟨fun a w hf hs K Q hK => by
    unfold Oper.wp
    rw [run_call rfl (by rfl) (hf.evs hargs) hcall]
    have hc' : Calls P f (#[] ++ vs.toArray ++ #[]) w (fun e w' => ∃ g, φ g ∧ e = .returned (v g) ∧ Below w.heap.size w w') := by simpa using hc w hs
    refine Calls.mono hc' fun e w' ⟨g, hg, he, hb⟩ => ?_
    subst he
    exact hK g _ _ hg (fun _ => hb) (hf.put hn _) (hs.grow hb)⟩
end
theorem checkS {P : Program} {t : TypeId} (h : P.underlying t = some .string) (e : Bool) (a : Bytes) (w : World) : (Instr.checkKey e 9999 t (strV a)).run P w = .ok () w := by
  unfold Instr.checkKey
  rw [Sem.run_bind, run_underlying h w]; rfl
theorem checkI {P : Program} {t : TypeId} (h : P.underlying t = some (.int .i64)) (e : Bool) (a : Int) (w : World) : (Instr.checkKey e 9999 t (intV a)).run P w = .ok () w := by
  unfold Instr.checkKey
  rw [Sem.run_bind, run_underlying h w]; rfl
end Go.Proofs.YtepljgpikfeklaaGreatDoor
