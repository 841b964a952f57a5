import Derived.Test.YthabgdbhgcgemaaGreatDoorQEng
import Derived.Laws.OwnMore
import Derived.Laws.Append
import Derived.Laws.Small
import Derived.Laws.MakeOwn
import Derived.Laws.IdiomCopy
import Derived.Laws.StructEq
namespace Go.Proofs.YthabgdbhgcgemaaGreatDoor
set_option linter.unusedVariables false
set_option linter.unusedSimpArgs false
open Go Go.RowKit
open Enc (enc)
section
variable {α : Type} [Enc α] {s : Slc α} {H : Hp}
theorem Slc.Good.all (h : s.Good H) : H.cells s.b s.o (encs s.els) := fun j v hj => by
  have hlt := (List.getElem?_eq_some_iff.1 hj).1
  rw [encs_length] at hlt
  have hp := Enc.pos (α := α)
  have hk : j / Enc.size α < s.els.length := Nat.div_lt_of_lt_mul (by rw [Nat.mul_comm]; exact hlt)
  have hi : j % Enc.size α < Enc.size α := Nat.mod_lt _ hp
  have hx : s.els[j / Enc.size α]? = some s.els[j / Enc.size α] := List.getElem?_eq_getElem hk
  have hv : (enc s.els[j / Enc.size α])[j % Enc.size α]? = some ((enc s.els[j / Enc.size α])[j % Enc.size α]'(by rw [Enc.len]; exact hi)) := List.getElem?_eq_getElem _
  have e := encs_get s.els _ _ _ _ hx hv
  have ej : j / Enc.size α * Enc.size α + j % Enc.size α = j := by rw [Nat.mul_comm]; exact Nat.div_add_mod _ _
  rw [ej, hj] at e
  have := h.cells _ _ hx _ _ hv
  rw [Nat.add_assoc, ej] at this
  rw [this, ← Option.some.inj e]
end
section
variable {P : Program} {n : FK} {S : World → Prop} {env : List (Nat × Value)}
theorem run_equalIn_sliceNil {P : Program} (w : World) (d : Nat) (t e : TypeId) (A : Option Addr) (m c : Nat) (h : P.underlying t = some (.slice e)) : (Op.equalIn (d + 1) t (.slice A m c) (.slice none 0 0)).run P w = .ok A.isNone w := by
  cases A <;> simp [Op.equalIn, run_underlying h]
theorem V.sliceNil [Tys P] {t u e : TypeId} {x y : Operand} {A : Option Addr} {m c : Nat} {k : TyK} (hk : tyk P t = some k) (hd : k.desc = .slice e) (hx : ev env x = some (.slice A m c)) (hy : ev env y = some (.slice none 0 0)) : V P n S env (.binOp .eql t x y u) (.bool A.isNone) :=
  ⟨fun o a w ho hf _ => by
    obtain ⟨d, hu, hf'⟩ := (tyk_ok hk).und
    rw [hd] at hf'
    simp only [TyD.fits] at hf'
    subst hf'
    unfold execOp; rw [ho]
    simp [hf.ev hx, hf.ev hy, binOp, eqGuard, Op.equal, Op.maxDepth, run_equalIn_sliceNil w 9999 t e A m c hu]⟩
theorem V.conv [Tys P] {s t : TypeId} {x : Operand} {i : Int} {q r : IntKind} {k ks : TyK} (hks : tyk P s = some ks) (hk : tyk P t = some k) (hd : k.desc = .int r) (hx : ev env x = some (.int q i)) (hi : r.wrap i = i) : V P n S env (.convert s t x) (.int r i) :=
  ⟨fun o A w ho hf _ => by
    obtain ⟨d, hu, hf'⟩ := (tyk_ok hk).und
    rw [hd] at hf'
    simp only [TyD.fits] at hf'
    subst hf'
    obtain ⟨d2, hu2, _⟩ := (tyk_ok hks).und
    unfold execOp; rw [ho]
    simp [hf.ev hx, convert, run_underlying hu, run_underlying hu2, Conv.intToInt, hi]⟩
theorem V.shr {t u : TypeId} {x y : Operand} {q r : IntKind} {i j : Int} (hx : ev env x = some (.int q i)) (hy : ev env y = some (.int r j)) (hj : 0 ≤ j ∧ j < 8) : V P n S env (.binOp .shr t x y u) (.int q (i.fdiv (2 ^ j.toNat))) :=
  ⟨fun o A w ho hf _ => by
    have h8 : min j.toNat q.bits = j.toNat := by cases q <;> simp [IntKind.bits] <;> omega
    unfold execOp; rw [ho]
    simp [hf.ev hx, hf.ev hy, binOp, eqGuard, Op.shift, show ¬ j < 0 by omega, h8]⟩
end
section
variable {P : Program} {n : FK} {w0 w w' : World} {H0 H H' : Hp} {Q : Exit → Act → World → Prop} {env : List (Nat × Value)} {L L' : List Loc} {ops rest : List Oper} {α : Type} [Enc α]
theorem St.perm (hs : St w0 H0 H L w) (hp : L.Perm L') : St w0 H0 H L' w :=
  ⟨hs.below, hs.sat, hs.le, hs.new, fun e he => hs.ok e (hp.mem_iff.2 he), fun e he => hs.out e (hp.mem_iff.2 he), hs.apart.perm hp (fun h b hb hb' => h b hb' hb)⟩
theorem T.perm {c : Code} (L' : List Loc) (hp : L.Perm L') (h : T P n w0 H0 c Q env H L') : T P n w0 H0 c Q env H L := ⟨fun a w hf hs => h.out a w hf (hs.perm hp)⟩
theorem TL.perm (L' : List Loc) (hp : L.Perm L') (h : TL P n w0 H0 ops Q rest env H L') : TL P n w0 H0 ops Q rest env H L := ⟨fun a w hf hs => h.out a w hf (hs.perm hp)⟩
theorem T.freezeRow {c : Code} {v : Value} {e : TypeId} {size m : Nat} {els : List α} (hsz : size = Enc.size α) (hm : els.length = m) (hg : ∀ x ∈ els, Enc.good H x) (h : ∀ (H' : Hp) (s : Slc α), s.v = v → s.els = els → s.Good H' → H.le H' → T P n w0 H0 c Q env H' L) :
    T P n w0 H0 c Q env H (.row v e size m (encs els) :: L) :=
  ⟨fun a w hf hs => by
    obtain ⟨H', s, h1, h2, h3, h4, h5⟩ := hs.freezeRow hsz hm hg
    exact (h H' s h1 h2 h3 h4).out a w hf h5⟩
theorem TL.freezeRow {v : Value} {e : TypeId} {size m : Nat} {els : List α} (hsz : size = Enc.size α) (hm : els.length = m) (hg : ∀ x ∈ els, Enc.good H x) (h : ∀ (H' : Hp) (s : Slc α), s.v = v → s.els = els → s.Good H' → H.le H' → TL P n w0 H0 ops Q rest env H' L) :
    TL P n w0 H0 ops Q rest env H (.row v e size m (encs els) :: L) :=
  ⟨fun a w hf hs => by
    obtain ⟨H', s, h1, h2, h3, h4, h5⟩ := hs.freezeRow hsz hm hg
    exact (h H' s h1 h2 h3 h4).out a w hf h5⟩
theorem run_append_none {P : Program} {w : World} (base : Nat) (t ty e : TypeId) (i : TypeInfo) (size c : Nat) (ht : P.underlying t = some (.slice e)) (hi : P.info? e = some i)
    (v : Value) (n : Nat) (xs : List Value) (hown : w.ownsRow base e size v n xs) : (Builtin.append_ #[t, t] ty #[v, .slice none 0 c]).run P w = .ok v w := by
  rcases hown.2 with ⟨rfl, rfl⟩ | ⟨g, cap, cur, rfl, _, _, hnc, _⟩
  · simp [Builtin.append_, run_underlying ht, sizeOf, typeInfo, hi, Builtin.lenOf, Builtin.firstCells]
  · simp [Builtin.append_, run_underlying ht, sizeOf, typeInfo, hi, Builtin.lenOf, Builtin.firstCells, hnc, storeCells]
theorem X.appendSlc [Tys P] (i : Nat) (s : Slc α) {d : Nat} {t e ty : TypeId} {x y : Operand} {pos : String} {after : Array Edge} {g : Option (Nat × Bool)} {k ke : TyK} {v : Value} {m : Nat} {xs : List Value} (hn : Nat.blt d n.n = true) (hk : tyk P t = some k) (hd : k.desc = .slice e) (hke : tyk P e = some ke) (h0 : Nat.beq ke.size 0 = false) (hz : Nat.beq ke.zero.cells.size ke.size = true)
    (hx : ev env x = some v) (hi : L[i]? = some (.row v e ke.size m xs)) (hy : ev env y = some s.v) (hsz : ke.size = Enc.size α) (hg : s.Good H) (hb : (m + s.len) * ke.bytes ≤ 140737488355328) (h63 : m + s.len ≤ 9223372036854775807) :
    X P n w0 H0 env H L ⟨some d, .call { callee := .builtin .append, args := #[x, y], argTypes := #[t, t] }, ty, pos, after, g⟩ false (G := Value) (fun v' => v' = .slice none 0 0 ↔ v = .slice none 0 0 ∧ s.len = 0) (fun v' => (d, v') :: env) (fun _ => H) (fun v' => L.set i (.row v' e ke.size (m + s.len) (xs ++ encs s.els))) :=
  ⟨fun a w hf hs K Q hK => by
    have hl : (encs s.els).length = s.len * ke.size := by rw [encs_length, hg.len, hsz]
    cases hA : s.A with
    | some ad =>
      obtain ⟨v', w', hrun, hst, hnil⟩ := run_append_x hs hk hd hke h0 hz hi (ad := ad) (c := s.cap) hl (fun q u hu => by
        have hq := (List.getElem?_eq_some_iff.1 hu).1
        have hpos : 0 < s.len := Nat.pos_of_ne_zero fun e => by rw [hl, e, Nat.zero_mul] at hq; omega
        have := hg.at_ hpos
        rw [hA] at this
        rw [Option.some.inj this, Addr.add_mid]
        exact hs.sat.cell (hg.all q u hu)) (fun u hu => encs_one _ u hu) hb h63 ty
      unfold Oper.wp
      rw [run_appendOp (v := v) (u := .slice (some ad) s.len s.cap) rfl (hf.ev hx) (by rw [← hA]; exact hf.ev hy) hrun]
      exact hK v' _ _ hnil (fun h => by cases h) (hf.put hn _) hst
    | none =>
      have hl0 : s.len = 0 := by
        rcases Nat.eq_zero_or_pos s.len with h | h
        · exact h
        · have := hg.at_ h; rw [hA] at this; cases this
      have hels : s.els = [] := List.eq_nil_of_length_eq_zero (by rw [hg.len]; exact hl0)
      obtain ⟨dd, hu, hf'⟩ := (tyk_ok hk).und
      rw [hd] at hf'
      simp only [TyD.fits] at hf'
      subst hf'
      obtain ⟨inf, hinf, _, _, _⟩ := (tyk_ok hke).get
      have hrun := run_append_none w0.heap.size t ty e inf ke.size s.cap hu hinf v m xs (hs.ok _ (List.mem_of_getElem? hi))
      unfold Oper.wp
      rw [run_appendOp (v := v) (u := .slice none 0 s.cap) rfl (hf.ev hx) (by rw [← hA, ← hl0]; exact hf.ev hy) hrun]
      refine hK v _ _ ⟨fun h => ⟨h, hl0⟩, fun h => h.1⟩ (fun h => by cases h) (hf.put hn _) ?_
      have he : L.set i (.row v e ke.size (m + s.len) (xs ++ encs s.els)) = L := by
        rw [hl0, hels, encs_nil, List.append_nil, Nat.add_zero]
        apply List.ext_getElem?
        intro j
        rw [List.getElem?_set]
        by_cases e : i = j
        · subst e
          rw [if_pos rfl, hi, if_pos (List.getElem?_eq_some_iff.1 hi).1]
        · rw [if_neg e]
      rw [he]; exact hs⟩
end
end Go.Proofs.YthabgdbhgcgemaaGreatDoor
namespace Go.Proofs.YthabgdbhgcgemaaGreatDoor
set_option linter.unusedVariables false
set_option linter.unusedSimpArgs false
open Go Go.RowKit
open Enc (enc)
theorem putCells_mid : ∀ (vs a b c : List Value) (j : Nat), j + vs.length ≤ b.length → putCells (a ++ (b ++ c)) (a.length + j) vs = a ++ (putCells b j vs ++ c)
  | [], _, _, _, _, _ => rfl
  | v :: vs, a, b, c, j, h => by
    simp only [List.length_cons] at h
    have e : (a ++ (b ++ c)).set (a.length + j) v = a ++ (b.set j v ++ c) := by
      rw [List.set_append_right _ _ (by omega), show a.length + j - a.length = j by omega, List.set_append_left _ _ (by omega)]
    rw [putCells, e, Nat.add_assoc, putCells_mid vs a (b.set j v) c (j + 1) (by simp; omega)]
    rfl
section
variable {α : Type} [Enc α]
theorem encs_put {l : List α} {k j : Nat} {x y : α} {vs : List Value} (hk : l[k]? = some x) (hj : j + vs.length ≤ Enc.size α) (h : putCells (enc x) j vs = enc y) {o : Nat} (ho : o = k * Enc.size α + j) : putCells (encs l) o vs = encs (l.set k y) := by
  have hlt := (List.getElem?_eq_some_iff.1 hk).1
  have hx : l[k] = x := (List.getElem?_eq_some_iff.1 hk).2
  have e1 : l = l.take k ++ ([x] ++ l.drop (k + 1)) := by
    rw [← hx]; simp
  have e2 : l.set k y = l.take k ++ ([y] ++ l.drop (k + 1)) := by
    rw [List.set_eq_take_append_cons_drop, if_pos hlt]; rfl
  have hl : (encs (l.take k)).length = k * Enc.size α := by rw [encs_length, List.length_take, Nat.min_eq_left (by omega)]
  have s1 : ∀ z : α, encs [z] = enc z := fun z => by simp [encs]
  rw [ho, e2]
  conv => lhs; rw [e1]
  rw [encs_append, encs_append, encs_append, encs_append, s1, s1, ← hl, putCells_mid _ _ _ _ _ (by rw [Enc.len]; exact hj), h]
end
section
variable {P : Program} {n : FK} {w0 w w' : World} {H0 H H' : Hp} {Q : Exit → Act → World → Prop} {env : List (Nat × Value)} {L L' : List Loc} {ops rest : List Oper} {α : Type} [Enc α]
theorem X.storeRowE [Tys P] {t ty : TypeId} {p x : Operand} {pos : String} {after : Array Edge} {g : Option (Nat × Bool)} {b o m c size : Nat} {e : TypeId} {xs ys vs : List Value} {v : Value} {k : TyK} (i : Nat) (hk : tyk P t = some k)
    (hp : ev env p = some (.pointer (some ⟨b, o, none⟩))) (hx : ev env x = some v) (hi : L[i]? = some (.row (.slice (some ⟨b, 0, none⟩) m c) e size m xs)) (hv : v.cells = vs.toArray) (hl : vs.length = k.size) (h1 : vs.all (·.oneCell') = true) (ho : o + vs.length ≤ m * size) (he : putCells xs o vs = ys) :
    X P n w0 H0 env H L ⟨none, .store t p x, ty, pos, after, g⟩ false (G := Unit) (fun _ => True) (fun _ => env) (fun _ => H) (fun _ => L.set i (.row (.slice (some ⟨b, 0, none⟩) m c) e size m ys)) := by
  subst he
  exact X.storeRow i hk hp hx hi hv hl h1 ho
theorem St.rowShape {v : Value} {e : TypeId} {size m : Nat} {xs : List Value} (hs : St w0 H0 H L w) (hm : Loc.row v e size m xs ∈ L) : ∃ (o : Option Nat) (c : Nat), v = .slice (o.map fun g => ⟨g, 0, none⟩) m c ∧ (o = none → m = 0 ∧ c = 0) := by
  rcases (show w.ownsRow w0.heap.size e size v m xs from hs.ok _ hm).2 with ⟨rfl, rfl⟩ | ⟨g, cap, cur, rfl, _⟩
  · exact ⟨none, 0, rfl, fun _ => ⟨rfl, rfl⟩⟩
  · exact ⟨some g, cap, rfl, fun h => by cases h⟩
end
end Go.Proofs.YthabgdbhgcgemaaGreatDoor
namespace Go.Proofs.YthabgdbhgcgemaaGreatDoor
set_option linter.unusedVariables false
set_option linter.unusedSimpArgs false
open Go Go.RowKit
open Enc (enc)
section
variable {P : Program} {n : FK} {S : World → Prop} {env : List (Nat × Value)}
theorem V.half {t u : TypeId} {x y : Operand} {q r : IntKind} {a b : Nat} (hx : ev env x = some (.int q ((a : Int) + (b : Int)))) (hy : ev env y = some (.int r 1)) : V P n S env (.binOp .shr t x y u) (.int q (((a + b) / 2 : Nat) : Int)) := by
  have h := V.shr (P := P) (n := n) (S := S) (t := t) (u := u) hx hy (by decide)
  have e : ((a : Int) + (b : Int)).fdiv (2 ^ (1 : Int).toNat) = (((a + b) / 2 : Nat) : Int) := by
    rw [show (2 : Int) ^ (1 : Int).toNat = 2 from rfl, Int.fdiv_eq_ediv_of_nonneg _ (by decide)]
    omega
  rw [e] at h
  exact h
end
section
variable {P : Program} {n : FK} {w0 w w' : World} {H0 H H' : Hp} {Q : Exit → Act → World → Prop} {env : List (Nat × Value)} {L L' : List Loc} {ops rest : List Oper} {α : Type} [Enc α]
theorem X.callFE {G : Type} {φ : G → Prop} {v : G → Value} {H' : G → Hp} {d : Nat} {f : FuncId} {args : Array Operand} {tys : Array TypeId} {ty : TypeId} {pos : String} {after : Array Edge} {g : Option (Nat × Bool)} {vs : List Value} (us : List Value)
    (hcall : ∀ (args : Array Value) (w : World), (callFunc f args).run P w = .ok (.enter f args) w) (hn : Nat.blt d n.n = true)
    (hargs : evs env args.toList = some vs) (he : vs = us) (hc : ∀ w, St w0 H0 H L w → Calls P f us.toArray w (RetF w H φ v H')) :
    X P n w0 H0 env H L ⟨some d, .call { callee := .value (.func f), args := args, argTypes := tys }, ty, pos, after, g⟩ true (fun g => φ g ∧ H.le (H' g)) (fun g => (d, v g) :: env) H' (fun _ => L) := by
  subst he
  exact X.callF0 hcall hn hargs hc
theorem X.storeTo [Tys P] {t ty : TypeId} {p x : Operand} {pos : String} {after : Array Edge} {g : Option (Nat × Bool)} {b o : Nat} {T : TypeId} {cs vs : List Value} {v : Value} {k : TyK} (i : Nat) (cs' : List Value) (hk : tyk P t = some k)
    (hp : ev env p = some (.pointer (some ⟨b, o, none⟩))) (hx : ev env x = some v) (hi : L[i]? = some (.blk b T cs)) (hv : v.cells = vs.toArray) (hl : vs.length = k.size) (h1 : vs.all (·.oneCell') = true) (ho : Nat.ble (o + vs.length) cs.length = true)
    (hc : putCells cs o vs = cs') {L' : List Loc} (hL' : L.set i (.blk b T cs') = L') : X P n w0 H0 env H L ⟨none, .store t p x, ty, pos, after, g⟩ false (G := Unit) (fun _ => True) (fun _ => env) (fun _ => H) (fun _ => L') := by
  subst hc
  exact X.store i hk hp hx hi hv hl h1 ho hL'
end
end Go.Proofs.YthabgdbhgcgemaaGreatDoor
namespace Go.Proofs.YthabgdbhgcgemaaGreatDoor
set_option linter.unusedVariables false
set_option linter.unusedSimpArgs false
open Go Go.RowKit
open Enc (enc)
theorem fill_parts (size : Nat) : ∀ (vs : List Value) (i : Nat) (cs pre : List Value), (∀ v ∈ vs, v.cells.toList.length = size) → cs.length = (i + vs.length) * size → cs.take (i * size) = pre → fillL (fun i => some (i * size, size)) cs (nums i vs) = some (pre ++ vs.flatMap (·.cells.toList))
  | [], i, cs, pre, _, hl, hp => by
    simp only [List.length_nil, Nat.add_zero] at hl
    rw [List.take_of_length_le (by omega)] at hp
    subst hp
    simp [nums, fillL]
  | v :: vs, i, cs, pre, hv, hl, hp => by
    have hv0 := hv v (by simp)
    have e1 : (i + 1) * size = i * size + size := by rw [Nat.add_mul, Nat.one_mul]
    have hle : i * size + size ≤ cs.length := by
      rw [hl, ← e1]
      exact Nat.mul_le_mul_right _ (by simp)
    have htk : (putCells cs (i * size) v.cells.toList).take ((i + 1) * size) = pre ++ v.cells.toList := by
      rw [e1, putCells_take _ _ _ _ (by rw [hv0]; exact Nat.le_refl _), put_all _ _ _ pre (by rw [List.length_take, hv0]; omega) (by rw [List.take_take, Nat.min_eq_left (by omega)]; exact hp)]
    have ih := fill_parts size vs (i + 1) (putCells cs (i * size) v.cells.toList) _ (fun u hu => hv u (by simp [hu])) (by rw [putCells_length, hl]; simp only [List.length_cons]; congr 1; omega) htk
    simp only [nums, fillL]
    rw [show (Nat.beq v.cells.toList.length size && Nat.ble (i * size + size) cs.length) = true by rw [hv0]; simp [hle]]
    simp only [cond_true]
    rw [ih]
    simp [List.append_assoc]
section
variable {P : Program} {n : FK} {w0 w w' : World} {H0 H H' : Hp} {Q : Exit → Act → World → Prop} {env : List (Nat × Value)} {L L' : List Loc} {ops rest : List Oper}
theorem X.buildParts [Tys P] {d : Nat} {t e ty m : Nat} {parts : Array (Nat × Operand)} {pos : String} {after : Array Edge} {g : Option (Nat × Bool)} {k ke : TyK} {vs : List Value} (cs : List Value) (hn : Nat.blt d n.n = true) (hk : tyk P t = some k) (hd : k.desc = .slice e) (hke : tyk P e = some ke) (hp' : evOnes env 0 parts.toList = some vs)
    (hv : vs.all (fun v => Nat.beq v.cells.toList.length ke.size) = true) (hm : vs.length = m) (hsm : Nat.ble (m * ke.size) 16777216 = true) (h0 : Nat.beq (m * ke.size) 0 = false) (hz : Nat.beq ke.zero.cells.size ke.size = true) (hcs : vs.flatMap (·.cells.toList) = cs) :
    X P n w0 H0 env H L ⟨some d, .buildSlice t m parts, ty, pos, after, g⟩ true (G := Nat) (fun _ => True) (fun b => (d, .slice (some ⟨b, 0, none⟩) m m) :: env) (fun _ => H) (fun b => .blk b e cs :: L) :=
  ⟨fun a w hf hs K Q hK => by
    have hp := evOnes_evp hp'
    have hv' : ∀ v ∈ vs, v.cells.toList.length = ke.size := fun v hv0 => Nat.eq_of_beq_eq_true (List.all_eq_true.1 hv v hv0)
    obtain ⟨dd, hu, hf'⟩ := (tyk_ok hk).und
    rw [hd] at hf'
    simp only [TyD.fits] at hf'
    subst hf'
    have hsm' := Nat.le_of_ble_eq_true hsm
    have h0' : m * ke.size ≠ 0 := fun e => by rw [e] at h0; simp at h0
    have hparts : parts.map (fun (p : Nat × Operand) => (p.1, a.eval p.2)) = (nums 0 vs).toArray := by
      apply Array.toList_inj.1
      simpa using hf.evp hp
    unfold Oper.wp
    have hfill : ∀ (zs : Array Value), zs.size = m * ke.size → Instr.fill (fun i => some (i * ke.size, ke.size)) zs (nums 0 vs) = some cs.toArray := by
      intro zs hz
      have hz' : zs = zs.toList.toArray := by simp
      rw [hz']
      apply fill_eq
      rw [fill_parts ke.size vs 0 zs.toList [] hv' (by simp [hz, hm]) (by simp), hcs]
      simp
    have : (execOp a.eval ⟨some d, .buildSlice t m parts, ty, pos, after, g⟩).run P w = .ok (.value (.slice (some ⟨w.heap.size, 0, none⟩) m m)) (w.alloc (.cells cs.toArray e)) := by
      unfold execOp
      simp only [Instr.buildSlice, Sem.run_bind, run_underlying hu, Result.andThen_ok, (tyk_ok hke).sizeOf w, hparts]
      rw [if_neg (by omega), if_neg h0']
      simp only [Sem.run_bind, (tyk_ok hke).zeroRun w, Result.andThen_ok, Sem.run_pure]
      have := hfill ((Array.range (m * ke.size)).map (fun x => ke.zero.cells[x % ke.zero.cells.size]!)) (by simp)
      rw [this]
      simp [newRow, newObj]
      rfl
    rw [this]
    exact hK _ _ _ trivial (fun _ => (Below.refl _ _).alloc (Nat.le_refl _) _) (hf.put hn _) (hs.blk e cs)⟩
end
end Go.Proofs.YthabgdbhgcgemaaGreatDoor
namespace Go.Proofs.YthabgdbhgcgemaaGreatDoor
set_option linter.unusedVariables false
set_option linter.unusedSimpArgs false
open Go Go.RowKit
open Enc (enc)
set_option linter.unusedSectionVars false
section
variable {P : Program} {n : FK} {S : World → Prop} {env : List (Nat × Value)}
theorem V.lenE [Tys P] {t e : TypeId} {tys : Array TypeId} {x : Operand} {A : Option Addr} {m c j : Nat} {k : TyK} (ht : tys[0]? = some t) (hk : tyk P t = some k) (hd : k.desc = .slice e) (hx : ev env x = some (.slice A m c)) (hm : m = j) : V P n S env (.call { callee := .builtin .len, args := #[x], argTypes := tys }) (intV j) := by
  subst hm
  exact V.len ht hk hd hx
theorem V.eqlE {k : IntKind} {t u : TypeId} {x y : Operand} {i j : Int} (hij : i = j) (hx : ev env x = some (.int k i)) (hy : ev env y = some (.int k j)) : V P n S env (.binOp .eql t x y u) (.bool true) := by
  have h := V.eql (P := P) (n := n) (S := S) (t := t) (u := u) hx hy
  rwa [decide_eq_true hij] at h
theorem V.eqlT {k : IntKind} {t u : TypeId} {x y : Operand} {i : Int} (hx : ev env x = some (.int k i)) (hy : ev env y = some (.int k i)) : V P n S env (.binOp .eql t x y u) (.bool true) := V.eqlE rfl hx hy
theorem V.eqlF {k : IntKind} {t u : TypeId} {x y : Operand} {i j : Int} (hij : i ≠ j) (hx : ev env x = some (.int k i)) (hy : ev env y = some (.int k j)) : V P n S env (.binOp .eql t x y u) (.bool false) := by
  have h := V.eql (P := P) (n := n) (S := S) (t := t) (u := u) hx hy
  rwa [decide_eq_false hij] at h
theorem V.neqE {k : IntKind} {t u : TypeId} {x y : Operand} {i j : Int} (hij : i = j) (hx : ev env x = some (.int k i)) (hy : ev env y = some (.int k j)) : V P n S env (.binOp .neq t x y u) (.bool false) := by
  have h := V.neq (P := P) (n := n) (S := S) (t := t) (u := u) hx hy
  rwa [decide_eq_true hij] at h
theorem V.neqT {k : IntKind} {t u : TypeId} {x y : Operand} {i j : Int} (hij : i ≠ j) (hx : ev env x = some (.int k i)) (hy : ev env y = some (.int k j)) : V P n S env (.binOp .neq t x y u) (.bool true) := by
  have h := V.neq (P := P) (n := n) (S := S) (t := t) (u := u) hx hy
  rwa [decide_eq_false hij] at h
theorem V.beqlT {t u : TypeId} {x y : Operand} {i : Bool} (hk : P.underlying t = some .bool) (hx : ev env x = some (.bool i)) (hy : ev env y = some (.bool i)) : V P n S env (.binOp .eql t x y u) (.bool true) := by
  have h := V.beql (P := P) (n := n) (S := S) (t := t) (u := u) hk hx hy
  rwa [beq_self_eq_true] at h
end
section
variable {P : Program} {n : FK} {w0 : World} {H0 H HS : Hp} {Q : Exit → Act → World → Prop} {env : List (Nat × Value)} {L LS : List Loc} {ops rest : List Oper} {K : KZ} {k : Nat} {ex : List Nat} {fuel : Nat} {ok : Bool}
theorem TL.callE {d : Nat} {f : FuncId} {args : Array Operand} {tys : Array TypeId} {ty : TypeId} {pos : String} {after : Array Edge} {g : Option (Nat × Bool)} {vs : List Value} {v : Value} (us : List Value)
    (hcall : ∀ (args : Array Value) (w : World), (callFunc f args).run P w = .ok (.enter f args) w) (hn : Nat.blt d n.n = true)
    (hw : want ops env ⟨some d, .call { callee := .value (.func f), args := args, argTypes := tys }, ty, pos, after, g⟩ = some true) (hargs : evs env args.toList = some vs) (he : vs = us)
    (hc : ∀ w, St w0 H0 H L w → Calls P f us.toArray w (Ret w v)) (h : TL P n w0 H0 ops Q rest ((d, v) :: env) H L) :
    TL P n w0 H0 ops Q (⟨some d, .call { callee := .value (.func f), args := args, argTypes := tys }, ty, pos, after, g⟩ :: rest) env H L := by
  subst he
  exact TL.call0 hcall hn hw hargs hc h
theorem GT.callE {f : FuncId} (us : List Value) (hcall : ∀ (args : Array Value) (w : World), (callFunc f args).run P w = .ok (.enter f args) w) {d : Nat} {args : Array Operand} {tys : Array TypeId} {ty : TypeId} {pos : String} {after : Array Edge} {g : Option (Nat × Bool)} {vs : List Value} {v : Value}
    (hi : ops[k]? = some ⟨some d, .call { callee := .value (.func f), args := args, argTypes := tys }, ty, pos, after, g⟩) (hm : mqAt ops k = true) (hn : Nat.blt d n.n = true)
    (hw : want ops env ⟨some d, .call { callee := .value (.func f), args := args, argTypes := tys }, ty, pos, after, g⟩ = some true) (hargs : evs env args.toList = some vs) (he : vs = us)
    (hcc : ∀ w, St w0 H0 HS LS w → Calls P f us.toArray w (Ret w v)) (hc : chk ops k ex = true)
    (h : GT P n w0 H0 ops K HS LS true fuel (k + 1) ex ((d, v) :: env) H L) : GT P n w0 H0 ops K HS LS true (fuel + 1) k ex env H L := by
  subst he
  exact GT.call0 hcall hi hm hn hw hargs hcc hc h
end
end Go.Proofs.YthabgdbhgcgemaaGreatDoor
namespace Go.Proofs.YthabgdbhgcgemaaGreatDoor
set_option linter.unusedVariables false
set_option linter.unusedSimpArgs false
open Go Go.RowKit
open Enc (enc)
section
variable {P : Program} {n : FK} {w0 : World} {H0 HS H : Hp} {K : KZ} {Q : Exit → Act → World → Prop} {env : List (Nat × Value)} {LS L : List Loc} {ops : List Oper} {ok : Bool} {fuel k : Nat} {ex : List Nat}
theorem T.regionDS {id : Nat} (LS : List Loc) (hm : P.follows .mixedOrders = true) (hnd : ops.all nd = true) (hL : List.Sublist LS L) (h : GT P n w0 H0 ops (KZ.of Q) H LS true ops.length 0 [] env H L) : T P n w0 H0 (.region id ops.toArray true) Q env H L :=
  ⟨fun a w hf hs => by
    have hd : St w0 H0 H L { w with drawn := w.drawn + 1 } := hs.drew
    have h1 := (h.out (by rw [← marks_none]; exact closed_none _ _) a _ hf hd (fun _ => hd.sub hL)).any
    rw [← marks_none] at h1
    refine wpIn_mono (wpIn_region_any (Q := Norm (KZ.of Q)) hm (any_bridge (by simpa using hnd) (by simpa using h1))) fun e a' w' hh => hh.of⟩
theorem GS.effS {j : Nat} {o : Oper} {gr : Bool} {G' : Type} {φ : G' → Prop} {E : G' → List (Nat × Value)} {HH : G' → Hp} {LL : G' → List Loc} (hi : ops[j]? = some o) (hw : want ops env o = some true) (hx : X P n w0 H0 env H L o gr φ E HH LL) (hH : ∀ g, HH g = HS) (hL : ∀ g, List.Sublist LS (LL g))
    (h : ∀ g, φ g → GT P n w0 H0 ops K HS LS true fuel k (j :: ex) (E g) (HH g) (LL g)) : GS P n w0 H0 ops K HS LS ok fuel k ex env H L j :=
  ⟨fun hcl a w hf hs hk => by
    unfold wpOp
    have hi' : ops.toArray[j]? = some o := by simpa using hi
    simp only [hi']
    rw [want_spec hf hw, if_pos rfl]
    refine .inl (hx.out a w hf hs _ _ fun g a' w' hg hb hf' hs' => ?_)
    have hk' : St w0 H0 HS LS w' := by
      have h1 := hs'.sub (hL g)
      rw [hH g] at h1
      exact h1
    exact ⟨fun i _ _ _ _ => hk', (h g hg).out hcl a' w' hf' hs' fun _ => hk'⟩⟩
end
end Go.Proofs.YthabgdbhgcgemaaGreatDoor
namespace Go.Proofs.YthabgdbhgcgemaaGreatDoor
set_option linter.unusedVariables false
set_option linter.unusedSimpArgs false
open Go Go.RowKit
open Enc (enc)
set_option linter.unusedSectionVars false
section
variable {α : Type} [Enc α]
theorem made_encs {z : Value} {z0 : α} (h : z.cells.toList = enc z0) (m : Nat) : (madeCells z.cells (m * Enc.size α)).toList = encs (List.replicate m z0) := by
  have hz : z.cells = (enc z0).toArray := by rw [← h]
  have hp := Enc.pos (α := α)
  rw [hz]
  apply List.ext_getElem?
  intro q
  by_cases hq : q < m * Enc.size α
  · have hk : q / Enc.size α < m := Nat.div_lt_of_lt_mul (by rw [Nat.mul_comm]; exact hq)
    have hi : q % Enc.size α < Enc.size α := Nat.mod_lt _ hp
    have ej : q / Enc.size α * Enc.size α + q % Enc.size α = q := by rw [Nat.mul_comm]; exact Nat.div_add_mod _ _
    have hv : (enc z0)[q % Enc.size α]? = some ((enc z0)[q % Enc.size α]'(by rw [Enc.len]; exact hi)) := List.getElem?_eq_getElem _
    have e := encs_get (List.replicate m z0) _ _ z0 _ (by rw [List.getElem?_replicate, if_pos hk]) hv
    rw [ej] at e
    rw [e]
    have hsz : (enc z0).length = Enc.size α := Enc.len z0
    simp [madeCells, hq, hsz, List.getElem!_eq_getElem?_getD, hv]
  · have h1 : (madeCells (enc z0).toArray (m * Enc.size α)).toList.length ≤ q := by simp [madeCells]; omega
    have h2 : (encs (List.replicate m z0)).length ≤ q := by rw [encs_length, List.length_replicate]; omega
    rw [List.getElem?_eq_none h1, List.getElem?_eq_none h2]
end
section
variable {P : Program} {n : FK} {w0 : World} {H0 H : Hp} {Q : Exit → Act → World → Prop} {env : List (Nat × Value)} {L : List Loc} {ops rest : List Oper} {α : Type} [Enc α]
theorem X.makeSlice [Tys P] (z0 : α) (m : Nat) {d : Nat} {t e ty : TypeId} {x y : Operand} {pos : String} {after : Array Edge} {g : Option (Nat × Bool)} {k ke : TyK} {kl kc : IntKind} {i j : Int} (hn : Nat.blt d n.n = true) (hk : tyk P t = some k) (hd : k.desc = .slice e) (hke : tyk P e = some ke)
    (hx : ev env x = some (.int kl i)) (hy : ev env y = some (.int kc j)) (hi : i = m) (hj : j = m) (hz : ke.zero.cells.toList = enc z0) (hsz : ke.size = Enc.size α) (hb : ke.bytes * m ≤ 281474976710656) (h63 : m ≤ 9223372036854775807) :
    X P n w0 H0 env H L ⟨some d, .makeSlice t x y, ty, pos, after, g⟩ true (G := Nat) (fun _ => True) (fun b => (d, .slice (some ⟨b, 0, none⟩) m m) :: env) (fun _ => H) (fun b => .row (.slice (some ⟨b, 0, none⟩) m m) e ke.size m (encs (List.replicate m z0)) :: L) :=
  ⟨fun a w hf hs K Q hK => by
    obtain ⟨dd, hu, hf'⟩ := (tyk_ok hk).und
    rw [hd] at hf'
    simp only [TyD.fits] at hf'
    subst hf'
    subst hi hj
    obtain ⟨inf, hinf, e1, e2, e3⟩ := (tyk_ok hke).get
    have hb' : (inf.bytes : Int) * (m : Int) ≤ 281474976710656 := by
      have h : ((ke.bytes * m : Nat) : Int) ≤ 281474976710656 := by omega
      rw [e2]
      rwa [Int.natCast_mul] at h
    have hr := run_make (P := P) w t e inf ke.zero hu hinf e3 kl kc (m : Int) (m : Int) (by omega) (Int.le_refl _) hb' (by omega)
    simp only [Int.toNat_natCast] at hr
    have : (execOp a.eval ⟨some d, .makeSlice t x y, ty, pos, after, g⟩).run P w = .ok (.value (.slice (some ⟨w.heap.size, 0, none⟩) m m)) (w.alloc (.cells (madeCells ke.zero.cells (m * inf.size)) e)) := by
      unfold execOp
      simp only [hf.ev hx, hf.ev hy, Sem.run_bind, hr]
      rfl
    unfold Oper.wp
    rw [this]
    refine hK _ _ _ trivial (fun _ => (Below.refl _ _).alloc (Nat.le_refl _) _) (hf.put hn _) (hs.alloc (e := .row (.slice (some ⟨w.heap.size, 0, none⟩) m m) e ke.size m (encs (List.replicate m z0))) rfl ?_)
    have hm := made_encs hz m
    refine ⟨by rw [encs_length, List.length_replicate, hsz], .inr ⟨w.heap.size, m, _, rfl, hs.below.size, heap_alloc_new w _, Nat.le_refl _, h63, ?_, ?_⟩⟩
    · rw [size_madeCells, e1]
    · rw [e1, hsz, hm, List.take_of_length_le]
      rw [encs_length, List.length_replicate]
      exact Nat.le_refl _⟩
theorem set_same {i : Nat} {e : Loc} (h : L[i]? = some e) : L.set i e = L := by
  apply List.ext_getElem?
  intro j
  rw [List.getElem?_set]
  by_cases e' : i = j
  · subst e'
    rw [if_pos rfl, h, if_pos (List.getElem?_eq_some_iff.1 h).1]
  · rw [if_neg e']
end
section
variable {P : Program} {n : FK} {w0 : World} {H0 H : Hp} {Q : Exit → Act → World → Prop} {env : List (Nat × Value)} {L : List Loc} {ops rest : List Oper} {α : Type} [Enc α]
theorem perm_of {α : Type} : ∀ {l : List α} {i : Nat} {x : α}, l[i]? = some x → l.Perm (x :: l.eraseIdx i)
  | [], i, x, h => by simp at h
  | a :: l, 0, x, h => by
    simp at h; subst h; exact List.Perm.refl _
  | a :: l, i + 1, x, h => by
    have h' : l[i]? = some x := by simpa using h
    exact ((perm_of h').cons a).trans (List.Perm.swap x a _)
theorem TL.frzRow (i : Nat) {v : Value} {e : TypeId} {size m : Nat} {els : List α} (hi : L[i]? = some (.row v e size m (encs els))) (hsz : size = Enc.size α) (hm : els.length = m) (hg : ∀ x ∈ els, Enc.good H x) (h : ∀ (H' : Hp) (s : Slc α), s.v = v → s.els = els → s.Good H' → H.le H' → TL P n w0 H0 ops Q rest env H' (L.eraseIdx i)) : TL P n w0 H0 ops Q rest env H L :=
  TL.perm _ (perm_of hi) (TL.freezeRow hsz hm hg h)
theorem T.frzRow {c : Code} (i : Nat) {v : Value} {e : TypeId} {size m : Nat} {els : List α} (hi : L[i]? = some (.row v e size m (encs els))) (hsz : size = Enc.size α) (hm : els.length = m) (hg : ∀ x ∈ els, Enc.good H x) (h : ∀ (H' : Hp) (s : Slc α), s.v = v → s.els = els → s.Good H' → H.le H' → T P n w0 H0 c Q env H' (L.eraseIdx i)) : T P n w0 H0 c Q env H L :=
  T.perm _ (perm_of hi) (T.freezeRow hsz hm hg h)
theorem St.frzBlk {w : World} {b m : Nat} {e : TypeId} {els : List α} (hs : St w0 H0 H (.blk b e (encs els) :: L) w) (hm : els.length = m) (hb : m ≤ maxLen) (hg : ∀ x ∈ els, Enc.good H x) : ∃ H' : Hp, (⟨some ⟨b, 0, none⟩, m, m, els⟩ : Slc α).Good H' ∧ H.le H' ∧ St w0 H0 H' L w := by
  have hl : (encs els).length = m * Enc.size α := by rw [encs_length, hm]
  have h1 := hs.blkRow (i := 0) (m := m) (size := Enc.size α) rfl hl hb
  obtain ⟨H', s, e1, e2, e3, e4, e5⟩ := St.freezeRow (α := α) h1 rfl hm hg
  obtain ⟨A, l, c, els'⟩ := s
  simp only [Slc.v, Value.slice.injEq] at e1
  simp only at e2
  obtain ⟨rfl, rfl, rfl⟩ := e1
  subst e2
  exact ⟨H', e3, e4, e5⟩
theorem TL.frzBlk (i : Nat) {b m : Nat} {e : TypeId} {cs : List Value} {els : List α} (hi : L[i]? = some (.blk b e cs)) (hcs : cs = encs els) (hm : els.length = m) (hb : m ≤ maxLen) (hg : ∀ x ∈ els, Enc.good H x) (h : ∀ (H' : Hp), (⟨some ⟨b, 0, none⟩, m, m, els⟩ : Slc α).Good H' → H.le H' → TL P n w0 H0 ops Q rest env H' (L.eraseIdx i)) : TL P n w0 H0 ops Q rest env H L := by
  subst hcs
  refine TL.perm _ (perm_of hi) ⟨fun a w hf hs => ?_⟩
  obtain ⟨H', e3, e4, e5⟩ := hs.frzBlk hm hb hg
  exact (h H' e3 e4).out a w hf e5
theorem encs_rowat {l : List α} {k o : Nat} {x : α} (hk : l[k]? = some x) (ho : o = k * Enc.size α) : ((encs l).drop o).take (Enc.size α) = enc x := by
  subst ho
  have hlt := (List.getElem?_eq_some_iff.1 hk).1
  have hx : l[k] = x := (List.getElem?_eq_some_iff.1 hk).2
  have e1 : l = l.take k ++ ([x] ++ l.drop (k + 1)) := by rw [← hx]; simp
  have hl : (encs (l.take k)).length = k * Enc.size α := by rw [encs_length, List.length_take, Nat.min_eq_left (by omega)]
  have s1 : encs [x] = enc x := by simp [encs]
  conv => lhs; rw [e1]
  rw [encs_append, encs_append, s1, ← hl, List.drop_left, ← Enc.len x, List.take_left]
end
end Go.Proofs.YthabgdbhgcgemaaGreatDoor
namespace Go.Proofs.YthabgdbhgcgemaaGreatDoor
set_option linter.unusedVariables false
set_option linter.unusedSimpArgs false
open Go Go.RowKit
open Enc (enc)
set_option linter.unusedSectionVars false
end Go.Proofs.YthabgdbhgcgemaaGreatDoor
namespace Go.Proofs.YthabgdbhgcgemaaGreatDoor
set_option linter.unusedVariables false
set_option linter.unusedSimpArgs false
open Go Go.RowKit
open Enc (enc)
section plainer
variable {κ : Type} {mk : κ → Value}
def entsFrom (mk : κ → Value) (j : Nat) (l : List (κ × Value)) : List MapEntry := (l.zipIdx j).map fun p => ⟨mk p.1.1, p.1.2, p.2⟩
def mObj (mk : κ → Value) (l : List (κ × Value)) : Obj := .map (entsFrom mk 0 l).toArray l.length
theorem entsFrom_get (j i : Nat) (l : List (κ × Value)) : (entsFrom mk j l)[i]? = (l[i]?).map fun p => ⟨mk p.1, p.2, j + i⟩ := by
  unfold entsFrom
  rw [List.getElem?_map, List.getElem?_zipIdx]
  cases l[i]? <;> simp
end plainer
section plain
variable {κ : Type} [DecidableEq κ]
def aFind (a : κ) : List (κ × Value) → Nat → Option (Nat × Value)
  | [], _ => none
  | (k, v) :: r, i => if a = k then some (i, v) else aFind a r (i + 1)
def aGet (a : κ) (l : List (κ × Value)) : Option Value := (aFind a l 0).map (·.2)
def aPut (a : κ) (v : Value) (l : List (κ × Value)) : List (κ × Value) :=
  match aFind a l 0 with
  | some (i, _) => l.set i (a, v)
  | none => l ++ [(a, v)]
structure KeyK (P : Program) (kt : TypeId) (kd : TypeDesc) (mk : κ → Value) : Prop where
  und : P.underlying kt = some kd
  same : ∀ a b, Instr.sameNow kd (mk a) (mk b) = some (decide (a = b))
  check : ∀ (e : Bool) (a : κ) (w : World), (Instr.checkKey e 10000 kt (mk a)).run P w = .ok () w
  bits : ∀ a, Instr.sameBits 10000 (mk a) (mk a) = true
variable {mk : κ → Value} {P : Program} {kt : TypeId} {kd : TypeDesc}
theorem aFind_none {a : κ} : ∀ {l : List (κ × Value)} {i : Nat}, aFind a l i = none ↔ ∀ p ∈ l, p.1 ≠ a
  | [], _ => by simp [aFind]
  | (k, v) :: r, i => by
    unfold aFind
    by_cases h : a = k
    · simp [h]
    · rw [if_neg h, aFind_none]; simp; exact fun _ => fun h' => h h'.symm
theorem aFind_some {a : κ} : ∀ {l : List (κ × Value)} {i j : Nat} {v : Value}, aFind a l i = some (j, v) → i ≤ j ∧ l[j - i]? = some (a, v)
  | [], _, _, _, h => by cases h
  | (k, u) :: r, i, j, v, h => by
    unfold aFind at h
    by_cases e : a = k
    · rw [if_pos e] at h
      simp at h
      obtain ⟨rfl, rfl⟩ := h
      simp [e]
    · rw [if_neg e] at h
      obtain ⟨h1, h2⟩ := aFind_some h
      refine ⟨by omega, ?_⟩
      rw [show j - i = (j - (i + 1)) + 1 by omega]
      exact h2
theorem findNow_eq (K : KeyK P kt kd mk) (a : κ) : ∀ (l : List (κ × Value)) (i j : Nat), Instr.findNow kd (mk a) (entsFrom mk j l) i = some (aFind a l i)
  | [], _, _ => rfl
  | (k, v) :: r, i, j => by
    show Instr.findNow kd (mk a) (⟨mk k, v, j⟩ :: entsFrom mk (j + 1) r) i = _
    unfold Instr.findNow aFind
    simp only [K.same]
    by_cases h : a = k
    · simp [h]
    · simp only [h, decide_false, if_false]; exact findNow_eq K a r (i + 1) (j + 1)
theorem run_findKey (K : KeyK P kt kd mk) (a : κ) (l : List (κ × Value)) (w : World) : (Instr.findKey kt (mk a) (entsFrom mk 0 l)).run P w = .ok (aFind a l 0) w := by
  unfold Instr.findKey
  rw [Sem.run_bind, run_underlying K.und w]
  simp only [Result.andThen_ok, findNow_eq K]
  rfl
theorem run_mlookup (K : KeyK P kt kd mk) {t e : TypeId} (ht : P.underlying t = some (.map kt e)) {z : Value} (a : κ) {l : List (κ × Value)} {w : World} (hz : (zeroValue e).run P w = .ok z w) {b : Nat} (hb : w.heap[b]? = some (mObj mk l)) : (Instr.lookup t (.map (some b)) (mk a) false).run P w = .ok ((aGet a l).getD z) w := by
  have hg : (getObj b).run P w = .ok (mObj mk l) w := MapKept.run_getObj_map hb
  unfold Instr.lookup
  simp only [Sem.run_bind, run_underlying ht w, Result.andThen_ok, hg, mObj, Sem.run_pure, K.check, List.toList_toArray, run_findKey K]
  unfold aGet
  cases aFind a l 0 with
  | none => simp [hz]
  | some p => obtain ⟨i, v⟩ := p; simp
theorem run_mput (K : KeyK P kt kd mk) {t e : TypeId} (ht : P.underlying t = some (.map kt e)) (a : κ) (v : Value) {l : List (κ × Value)} {w : World} {b : Nat} (hb : w.heap[b]? = some (mObj mk l)) : (Instr.mapUpdate t (.map (some b)) (mk a) v).run P w = .ok () (w.putObj b (mObj mk (aPut a v l))) := by
  have hg : (getObj b).run P w = .ok (mObj mk l) w := MapKept.run_getObj_map hb
  have hsz : b < w.heap.size := (Array.getElem?_eq_some_iff.1 hb).1
  have hset : ∀ o, (setObj b o).run P w = .ok () (w.putObj b o) := fun o => MapKept.run_setObj_map o hb
  unfold Instr.mapUpdate
  simp only [Sem.run_bind, run_underlying ht w, Result.andThen_ok, hg, mObj, K.check, List.toList_toArray, run_findKey K]
  unfold aPut
  cases hf : aFind a l 0 with
  | none =>
    simp only [hset]
    congr 2
    try unfold mObj
    congr 1
    · apply Array.toList_inj.1
      apply List.ext_getElem?
      intro i
      simp only [Array.toList_push, List.toList_toArray]
      rw [List.getElem?_append, entsFrom_get, entsFrom_get, List.getElem?_append]
      have : (entsFrom mk 0 l).length = l.length := by unfold entsFrom; simp
      rw [this]
      by_cases h : i < l.length
      · simp [h]
      · by_cases h2 : i = l.length
        · subst h2; simp
        · rw [if_neg h, if_neg h]
          rw [List.getElem?_eq_none (by simp; omega), List.getElem?_eq_none (by simp; omega)]; rfl
    · simp
  | some p =>
    obtain ⟨i, u⟩ := p
    have hi := (aFind_some hf).2
    rw [Nat.sub_zero] at hi
    have hk : ((entsFrom mk 0 l).toArray[i]?.map (·.key)).getD (mk a) = mk a := by
      rw [List.getElem?_toArray, entsFrom_get, hi]; rfl
    simp only [hk, Instr.keyThatStays, K.bits, if_true, Sem.run_bind, Sem.run_pure, Result.andThen_ok, hset]
    congr 2
    try unfold mObj
    congr 1
    · apply Array.ext_getElem?
      intro j
      rw [Array.getElem?_modify, List.getElem?_toArray, List.getElem?_toArray, entsFrom_get, entsFrom_get, List.getElem?_set]
      by_cases h : i = j
      · subst h
        rw [if_pos rfl, if_pos rfl, hi, if_pos (by exact (List.getElem?_eq_some_iff.1 hi).1)]; rfl
      · rw [if_neg h, if_neg h]
    · simp
end plain
theorem keyI {P : Program} {kt : TypeId} {q : IntKind} (h : P.underlying kt = some (.int q)) : KeyK P kt (.int q) (fun a : Int => .int q a) where
  und := h
  same a b := by simp only [Instr.sameNow, if_true]; rfl
  check e a w := by
    unfold Instr.checkKey
    rw [Sem.run_bind, run_underlying h w]; rfl
  bits a := by simp [Instr.sameBits]
theorem keyS {P : Program} {kt : TypeId} (h : P.underlying kt = some .string) : KeyK P kt .string (fun a : List UInt8 => strV a) where
  und := h
  same a b := by
    simp only [Instr.sameNow]
    rw [beq_toListBytes, bytes_eq]
  check e a w := by
    unfold Instr.checkKey
    rw [Sem.run_bind, run_underlying h w]; rfl
  bits a := by simp only [Instr.sameBits]; rw [beq_toListBytes, bytes_eq]; simp
section
variable {P : Program} {n : FK} {w0 w w' : World} {H0 H H' : Hp} {Q : Exit → Act → World → Prop} {env : List (Nat × Value)} {L L' : List Loc} {κ : Type}
theorem X.makeMap {d : Nat} {t ty : TypeId} {pos : String} {after : Array Edge} {g : Option (Nat × Bool)} (mk : κ → Value) (hn : Nat.blt d n.n = true) :
    X P n w0 H0 env H L ⟨some d, .makeMap t none, ty, pos, after, g⟩ true (G := Nat) (fun _ => True) (fun b => (d, .map (some b)) :: env) (fun _ => H) (fun b => .any b (mObj mk []) :: L) :=
  ⟨fun a w hf hs K Q hK => by
    unfold Oper.wp
    have : (execOp a.eval ⟨some d, .makeMap t none, ty, pos, after, g⟩).run P w = .ok (.value (.map (some w.heap.size))) (w.alloc (mObj mk [])) := by
      unfold execOp
      simp [Instr.makeMap, newObj]
      rfl
    rw [this]
    exact hK _ _ _ trivial (fun _ => (Below.refl _ _).alloc (Nat.le_refl _) _) (hf.put hn _) (hs.alloc rfl ⟨hs.below.size, World.alloc_heap_new _ _⟩)⟩
end
section
variable {P : Program} {n : FK} {w0 w w' : World} {H0 H H' : Hp} {Q : Exit → Act → World → Prop} {env : List (Nat × Value)} {L L' : List Loc} {ops rest : List Oper} {κ : Type} [DecidableEq κ] {mk : κ → Value} {kt : TypeId} {kd : TypeDesc}
theorem V.mlookup [Tys P] {t e : TypeId} {x y : Operand} {b : Nat} {k ke : TyK} {l : List (κ × Value)} {c : Value} (a : κ) (hk : tyk P t = some k) (hd : k.desc = .map kt e) (hke : tyk P e = some ke) (K : KeyK P kt kd mk) (hx : ev env x = some (.map (some b))) (hy : ev env y = some (mk a))
    (hm : Loc.any b (mObj mk l) ∈ L) (hc : (aGet a l).getD ke.zero = c) : V P n (St w0 H0 H L) env (.lookup t x y false) c :=
  ⟨fun o a' w ho hf hs => by
    obtain ⟨d, hd1, hd2⟩ := (tyk_ok hk).und
    rw [hd] at hd2
    simp only [TyD.fits] at hd2
    subst hd2
    have := run_mlookup K hd1 a ((tyk_ok hke).zeroRun w) (hs.ok _ hm).2
    unfold execOp
    rw [ho]
    simp only [hf.ev hx, hf.ev hy, Sem.run_bind, this, hc]
    rfl⟩
theorem X.mput [Tys P] {t e ty : TypeId} {x y z : Operand} {b : Nat} {k : TyK} {pos : String} {after : Array Edge} {g : Option (Nat × Bool)} {l : List (κ × Value)} {v : Value} (i : Nat) (a : κ) (hk : tyk P t = some k) (hd : k.desc = .map kt e) (K : KeyK P kt kd mk) (hx : ev env x = some (.map (some b))) (hy : ev env y = some (mk a)) (hz : ev env z = some v)
    (hi : L[i]? = some (.any b (mObj mk l))) {L' : List Loc} (hL : L.set i (.any b (mObj mk (aPut a v l))) = L') : X P n w0 H0 env H L ⟨none, .mapUpdate t x y z, ty, pos, after, g⟩ false (G := Unit) (fun _ => True) (fun _ => env) (fun _ => H) (fun _ => L') :=
  ⟨fun a' w hf hs K' Q hK => by
    obtain ⟨d, hd1, hd2⟩ := (tyk_ok hk).und
    rw [hd] at hd2
    simp only [TyD.fits] at hd2
    subst hd2
    have hrun := run_mput K hd1 a v (hs.ok _ (List.mem_of_getElem? hi)).2
    unfold Oper.wp
    have : (execOp a'.eval ⟨none, .mapUpdate t x y z, ty, pos, after, g⟩).run P w = .ok .skip (w.putObj b (mObj mk (aPut a v l))) := by
      unfold execOp
      simp only [hf.ev hx, hf.ev hy, hf.ev hz, Sem.run_bind, hrun]
      rfl
    rw [this]
    subst hL
    exact hK () _ _ trivial (fun h => by cases h) (hf.put_none _) (hs.putObj _ hi)⟩
end
theorem aGet_set {κ : Type} [DecidableEq κ] (a : κ) (l : List κ) : (aGet a (l.map fun x => (x, Value.bool true))).getD (.bool false) = .bool (decide (a ∈ l)) := by
  unfold aGet
  cases h : aFind a (l.map fun x => (x, Value.bool true)) 0 with
  | none =>
    rw [aFind_none] at h
    rw [decide_eq_false fun h' => h (a, .bool true) (List.mem_map.2 ⟨a, h', rfl⟩) rfl]; rfl
  | some p =>
    obtain ⟨j, v⟩ := p
    have h2 := List.mem_of_getElem? (aFind_some h).2
    obtain ⟨x, hx, he⟩ := List.mem_map.1 h2
    simp only [Prod.mk.injEq] at he
    obtain ⟨rfl, rfl⟩ := he
    rw [decide_eq_true hx]; rfl
theorem aPut_set {κ : Type} [DecidableEq κ] {a : κ} {l : List κ} (h : a ∉ l) : aPut a (.bool true) (l.map fun x => (x, Value.bool true)) = (l ++ [a]).map fun x => (x, Value.bool true) := by
  unfold aPut
  have : aFind a (l.map fun x => (x, Value.bool true)) 0 = none := aFind_none.2 fun p hp => by
    obtain ⟨x, hx, rfl⟩ := List.mem_map.1 hp
    exact fun e => h (e ▸ hx)
  rw [this]; simp
end Go.Proofs.YthabgdbhgcgemaaGreatDoor
