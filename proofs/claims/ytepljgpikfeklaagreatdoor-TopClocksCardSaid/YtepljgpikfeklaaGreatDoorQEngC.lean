import Derived.Test.YtepljgpikfeklaaGreatDoorQEng
import Derived.Laws.OwnMore
import Derived.Laws.Append
import Derived.Laws.Small
import Derived.Laws.MakeOwn
import Derived.Laws.IdiomCopy
import Derived.Laws.StructEq
namespace Go.Proofs.YtepljgpikfeklaaGreatDoor
set_option linter.unusedVariables false
set_option linter.unusedSimpArgs false
open Go Go.RowKit
open Enc (enc)
section
variable {α : Type} [Enc α] {s : Slc α} {H : Hp}
theorem Slc.Good.all (h : s.Good H) : H.cells s.b s.o (encs s.els) := fun j v hj => by
  have hlt := (List.getElem?_eq_some_iff.1 hj).1
  rw [encs_length] at hlt
  have hp := Enc.pos (α := α)
  have hk : j / Enc.size α < s.els.length := Nat.div_lt_of_lt_mul (by rw [Nat.mul_comm]; exact hlt)
  have hi : j % Enc.size α < Enc.size α := Nat.mod_lt _ hp
  have hx : s.els[j / Enc.size α]? = some s.els[j / Enc.size α] := List.getElem?_eq_getElem hk
  have hv : (enc s.els[j / Enc.size α])[j % Enc.size α]? = some ((enc s.els[j / Enc.size α])[j % Enc.size α]'(by rw [Enc.len]; exact hi)) := List.getElem?_eq_getElem _
  have e := encs_get s.els _ _ _ _ hx hv
  have ej : j / Enc.size α * Enc.size α + j % Enc.size α = j := by rw [Nat.mul_comm]; exact Nat.div_add_mod _ _
  rw [ej, hj] at e
  have := h.cells _ _ hx _ _ hv
  rw [Nat.add_assoc, ej] at this
  rw [this, ← Option.some.inj e]
def Slc.drop (s : Slc α) (i : Nat) : Slc α := ⟨if s.cap = i then s.A else s.A.map (·.add (i * Enc.size α)), s.len - i, s.cap - i, s.els.drop i⟩
theorem Slc.Good.drop (h : s.Good H) {i : Nat} (hi : i ≤ s.len) : (s.drop i).Good H := by
  have hlen := h.len
  have hcap := h.cap
  have hbig := h.big
  have hmem : ∀ k x, (s.els.drop i)[k]? = some x → s.els[i + k]? = some x := fun k x hk => by rw [List.getElem?_drop] at hk; exact hk
  have hat : 0 < s.len - i → (s.drop i).A = some ⟨s.b, s.o + i * Enc.size α, none⟩ := fun h0 => by
    have ha := h.at_ (by omega)
    unfold Slc.drop
    rw [if_neg (by omega), ha]
    simp only [Option.map_some, Addr.add]
    by_cases hz : i * Enc.size α = 0
    · rw [if_pos hz, hz]; rfl
    · rw [if_neg hz]
  have hb : 0 < s.len - i → (s.drop i).b = s.b ∧ (s.drop i).o = s.o + i * Enc.size α := fun h0 => by
    unfold Slc.b Slc.o
    rw [hat h0]
    exact ⟨rfl, rfl⟩
  refine ⟨by simp [Slc.drop, hlen], by simp only [Slc.drop]; omega, by simp only [Slc.drop]; omega, fun h0 => ?_, fun k x hk => ?_, fun x hx => h.els x (List.mem_of_mem_drop hx)⟩
  · rw [(hb h0).1, (hb h0).2]; exact hat h0
  · have hk' := hmem k x hk
    have hlt := (List.getElem?_eq_some_iff.1 hk').1
    obtain ⟨e1, e2⟩ := hb (by omega)
    rw [e1, e2]
    have := h.cells _ _ hk'
    rw [Nat.add_mul, ← Nat.add_assoc] at this
    exact this
end
section
variable {P : Program} {n : FK} {S : World → Prop} {env : List (Nat × Value)}
theorem run_equalIn_sliceNil {P : Program} (w : World) (d : Nat) (t e : TypeId) (A : Option Addr) (m c : Nat) (h : P.underlying t = some (.slice e)) : (Op.equalIn (d + 1) t (.slice A m c) (.slice none 0 0)).run P w = .ok A.isNone w := by
  cases A <;> simp [Op.equalIn, run_underlying h]
theorem V.sliceNil [Tys P] {t u e : TypeId} {x y : Operand} {A : Option Addr} {m c : Nat} {k : TyK} (hk : tyk P t = some k) (hd : k.desc = .slice e) (hx : ev env x = some (.slice A m c)) (hy : ev env y = some (.slice none 0 0)) : V P n S env (.binOp .eql t x y u) (.bool A.isNone) :=
  ⟨fun o a w ho hf _ => by
    obtain ⟨d, hu, hf'⟩ := (tyk_ok hk).und
    rw [hd] at hf'
    simp only [TyD.fits] at hf'
    subst hf'
    unfold execOp; rw [ho]
    simp [hf.ev hx, hf.ev hy, binOp, eqGuard, Op.equal, Op.maxDepth, run_equalIn_sliceNil w 9999 t e A m c hu]⟩
theorem V.nilCheck {x : Operand} {a : Addr} (hx : ev env x = some (.pointer (some a))) : V P n S env (.nilCheck x) (.pointer (some a)) :=
  ⟨fun o A w ho hf _ => by unfold execOp; rw [ho]; simp [hf.ev hx]⟩
theorem V.conv [Tys P] {s t : TypeId} {x : Operand} {i : Int} {q r : IntKind} {k ks : TyK} (hks : tyk P s = some ks) (hk : tyk P t = some k) (hd : k.desc = .int r) (hx : ev env x = some (.int q i)) (hi : r.wrap i = i) : V P n S env (.convert s t x) (.int r i) :=
  ⟨fun o A w ho hf _ => by
    obtain ⟨d, hu, hf'⟩ := (tyk_ok hk).und
    rw [hd] at hf'
    simp only [TyD.fits] at hf'
    subst hf'
    obtain ⟨d2, hu2, _⟩ := (tyk_ok hks).und
    unfold execOp; rw [ho]
    simp [hf.ev hx, convert, run_underlying hu, run_underlying hu2, Conv.intToInt, hi]⟩
theorem V.shr {t u : TypeId} {x y : Operand} {q r : IntKind} {i j : Int} (hx : ev env x = some (.int q i)) (hy : ev env y = some (.int r j)) (hj : 0 ≤ j ∧ j < 8) : V P n S env (.binOp .shr t x y u) (.int q (i.fdiv (2 ^ j.toNat))) :=
  ⟨fun o A w ho hf _ => by
    have h8 : min j.toNat q.bits = j.toNat := by cases q <;> simp [IntKind.bits] <;> omega
    unfold execOp; rw [ho]
    simp [hf.ev hx, hf.ev hy, binOp, eqGuard, Op.shift, show ¬ j < 0 by omega, h8]⟩
theorem V.sliceFrom [Tys P] {α : Type} [Enc α] {t e : TypeId} {x y : Operand} {s : Slc α} {i : Int} {k ke : TyK} {q : IntKind} (hk : tyk P t = some k) (hd : k.desc = .slice e) (hke : tyk P e = some ke) (hsz : ke.size = Enc.size α) (hx : ev env x = some s.v) (hy : ev env y = some (.int q i)) (hi : 0 ≤ i ∧ i ≤ s.len) (hc : s.len ≤ s.cap) :
    V P n S env (.slice t x (some y) none none) (s.drop i.toNat).v :=
  ⟨fun o A w ho hf _ => by
    obtain ⟨d, hu, hf'⟩ := (tyk_ok hk).und
    rw [hd] at hf'
    simp only [TyD.fits] at hf'
    subst hf'
    have h1 := run_bound (P := P) (w := w) (k := q) (i := i) (j := i.toNat) (y := s.len) (c := .sliceB) (by omega) (by omega)
    unfold execOp; rw [ho]
    simp [hf.ev hx, hf.ev hy, Instr.sliceAt, Instr.slice, Instr.sliceBounds, run_underlying hu, h1, (tyk_ok hke).sizeOf w, hsz, Slc.drop]⟩
end
section
variable {P : Program} {n : FK} {w0 w w' : World} {H0 H H' : Hp} {Q : Exit → Act → World → Prop} {env : List (Nat × Value)} {L L' : List Loc} {ops rest : List Oper} {α : Type} [Enc α]
theorem St.perm (hs : St w0 H0 H L w) (hp : L.Perm L') : St w0 H0 H L' w :=
  ⟨hs.below, hs.sat, hs.le, hs.new, fun e he => hs.ok e (hp.mem_iff.2 he), fun e he => hs.out e (hp.mem_iff.2 he), hs.apart.perm hp (fun h b hb hb' => h b hb' hb)⟩
theorem T.perm {c : Code} (L' : List Loc) (hp : L.Perm L') (h : T P n w0 H0 c Q env H L') : T P n w0 H0 c Q env H L := ⟨fun a w hf hs => h.out a w hf (hs.perm hp)⟩
theorem TL.perm (L' : List Loc) (hp : L.Perm L') (h : TL P n w0 H0 ops Q rest env H L') : TL P n w0 H0 ops Q rest env H L := ⟨fun a w hf hs => h.out a w hf (hs.perm hp)⟩
theorem T.freezeRow {c : Code} {v : Value} {e : TypeId} {size m : Nat} {els : List α} (hsz : size = Enc.size α) (hm : els.length = m) (hg : ∀ x ∈ els, Enc.good H x) (h : ∀ (H' : Hp) (s : Slc α), s.v = v → s.els = els → s.Good H' → H.le H' → T P n w0 H0 c Q env H' L) :
    T P n w0 H0 c Q env H (.row v e size m (encs els) :: L) :=
  ⟨fun a w hf hs => by
    obtain ⟨H', s, h1, h2, h3, h4, h5⟩ := hs.freezeRow hsz hm hg
    exact (h H' s h1 h2 h3 h4).out a w hf h5⟩
theorem TL.freezeRow {v : Value} {e : TypeId} {size m : Nat} {els : List α} (hsz : size = Enc.size α) (hm : els.length = m) (hg : ∀ x ∈ els, Enc.good H x) (h : ∀ (H' : Hp) (s : Slc α), s.v = v → s.els = els → s.Good H' → H.le H' → TL P n w0 H0 ops Q rest env H' L) :
    TL P n w0 H0 ops Q rest env H (.row v e size m (encs els) :: L) :=
  ⟨fun a w hf hs => by
    obtain ⟨H', s, h1, h2, h3, h4, h5⟩ := hs.freezeRow hsz hm hg
    exact (h H' s h1 h2 h3 h4).out a w hf h5⟩
theorem run_append_none {P : Program} {w : World} (base : Nat) (t ty e : TypeId) (i : TypeInfo) (size c : Nat) (ht : P.underlying t = some (.slice e)) (hi : P.info? e = some i)
    (v : Value) (n : Nat) (xs : List Value) (hown : w.ownsRow base e size v n xs) : (Builtin.append_ #[t, t] ty #[v, .slice none 0 c]).run P w = .ok v w := by
  rcases hown.2 with ⟨rfl, rfl⟩ | ⟨g, cap, cur, rfl, _, _, hnc, _⟩
  · simp [Builtin.append_, run_underlying ht, sizeOf, typeInfo, hi, Builtin.lenOf, Builtin.firstCells]
  · simp [Builtin.append_, run_underlying ht, sizeOf, typeInfo, hi, Builtin.lenOf, Builtin.firstCells, hnc, storeCells]
theorem X.appendSlc [Tys P] (i : Nat) (s : Slc α) {d : Nat} {t e ty : TypeId} {x y : Operand} {pos : String} {after : Array Edge} {g : Option (Nat × Bool)} {k ke : TyK} {v : Value} {m : Nat} {xs : List Value} (hn : Nat.blt d n.n = true) (hk : tyk P t = some k) (hd : k.desc = .slice e) (hke : tyk P e = some ke) (h0 : Nat.beq ke.size 0 = false) (hz : Nat.beq ke.zero.cells.size ke.size = true)
    (hx : ev env x = some v) (hi : L[i]? = some (.row v e ke.size m xs)) (hy : ev env y = some s.v) (hsz : ke.size = Enc.size α) (hg : s.Good H) (hb : (m + s.len) * ke.bytes ≤ 140737488355328) (h63 : m + s.len ≤ 9223372036854775807) :
    X P n w0 H0 env H L ⟨some d, .call { callee := .builtin .append, args := #[x, y], argTypes := #[t, t] }, ty, pos, after, g⟩ false (G := Value) (fun v' => v' = .slice none 0 0 ↔ v = .slice none 0 0 ∧ s.len = 0) (fun v' => (d, v') :: env) (fun _ => H) (fun v' => L.set i (.row v' e ke.size (m + s.len) (xs ++ encs s.els))) :=
  ⟨fun a w hf hs K Q hK => by
    have hl : (encs s.els).length = s.len * ke.size := by rw [encs_length, hg.len, hsz]
    cases hA : s.A with
    | some ad =>
      obtain ⟨v', w', hrun, hst, hnil⟩ := run_append_x hs hk hd hke h0 hz hi (ad := ad) (c := s.cap) hl (fun q u hu => by
        have hq := (List.getElem?_eq_some_iff.1 hu).1
        have hpos : 0 < s.len := Nat.pos_of_ne_zero fun e => by rw [hl, e, Nat.zero_mul] at hq; omega
        have := hg.at_ hpos
        rw [hA] at this
        rw [Option.some.inj this, Addr.add_mid]
        exact hs.sat.cell (hg.all q u hu)) (fun u hu => encs_one _ u hu) hb h63 ty
      unfold Oper.wp
      rw [run_appendOp (v := v) (u := .slice (some ad) s.len s.cap) rfl (hf.ev hx) (by rw [← hA]; exact hf.ev hy) hrun]
      exact hK v' _ _ hnil (fun h => by cases h) (hf.put hn _) hst
    | none =>
      have hl0 : s.len = 0 := by
        rcases Nat.eq_zero_or_pos s.len with h | h
        · exact h
        · have := hg.at_ h; rw [hA] at this; cases this
      have hels : s.els = [] := List.eq_nil_of_length_eq_zero (by rw [hg.len]; exact hl0)
      obtain ⟨dd, hu, hf'⟩ := (tyk_ok hk).und
      rw [hd] at hf'
      simp only [TyD.fits] at hf'
      subst hf'
      obtain ⟨inf, hinf, _, _, _⟩ := (tyk_ok hke).get
      have hrun := run_append_none w0.heap.size t ty e inf ke.size s.cap hu hinf v m xs (hs.ok _ (List.mem_of_getElem? hi))
      unfold Oper.wp
      rw [run_appendOp (v := v) (u := .slice none 0 s.cap) rfl (hf.ev hx) (by rw [← hA, ← hl0]; exact hf.ev hy) hrun]
      refine hK v _ _ ⟨fun h => ⟨h, hl0⟩, fun h => h.1⟩ (fun h => by cases h) (hf.put hn _) ?_
      have he : L.set i (.row v e ke.size (m + s.len) (xs ++ encs s.els)) = L := by
        rw [hl0, hels, encs_nil, List.append_nil, Nat.add_zero]
        apply List.ext_getElem?
        intro j
        rw [List.getElem?_set]
        by_cases e : i = j
        · subst e
          rw [if_pos rfl, hi, if_pos (List.getElem?_eq_some_iff.1 hi).1]
        · rw [if_neg e]
      rw [he]; exact hs⟩
end
end Go.Proofs.YtepljgpikfeklaaGreatDoor
namespace Go.Proofs.YtepljgpikfeklaaGreatDoor
set_option linter.unusedVariables false
set_option linter.unusedSimpArgs false
open Go Go.RowKit
open Enc (enc)
theorem putCells_mid : ∀ (vs a b c : List Value) (j : Nat), j + vs.length ≤ b.length → putCells (a ++ (b ++ c)) (a.length + j) vs = a ++ (putCells b j vs ++ c)
  | [], _, _, _, _, _ => rfl
  | v :: vs, a, b, c, j, h => by
    simp only [List.length_cons] at h
    have e : (a ++ (b ++ c)).set (a.length + j) v = a ++ (b.set j v ++ c) := by
      rw [List.set_append_right _ _ (by omega), show a.length + j - a.length = j by omega, List.set_append_left _ _ (by omega)]
    rw [putCells, e, Nat.add_assoc, putCells_mid vs a (b.set j v) c (j + 1) (by simp; omega)]
    rfl
section
variable {α : Type} [Enc α]
theorem encs_put {l : List α} {k j : Nat} {x y : α} {vs : List Value} (hk : l[k]? = some x) (hj : j + vs.length ≤ Enc.size α) (h : putCells (enc x) j vs = enc y) {o : Nat} (ho : o = k * Enc.size α + j) : putCells (encs l) o vs = encs (l.set k y) := by
  have hlt := (List.getElem?_eq_some_iff.1 hk).1
  have hx : l[k] = x := (List.getElem?_eq_some_iff.1 hk).2
  have e1 : l = l.take k ++ ([x] ++ l.drop (k + 1)) := by
    rw [← hx]; simp
  have e2 : l.set k y = l.take k ++ ([y] ++ l.drop (k + 1)) := by
    rw [List.set_eq_take_append_cons_drop, if_pos hlt]; rfl
  have hl : (encs (l.take k)).length = k * Enc.size α := by rw [encs_length, List.length_take, Nat.min_eq_left (by omega)]
  have s1 : ∀ z : α, encs [z] = enc z := fun z => by simp [encs]
  rw [ho, e2]
  conv => lhs; rw [e1]
  rw [encs_append, encs_append, encs_append, encs_append, s1, s1, ← hl, putCells_mid _ _ _ _ _ (by rw [Enc.len]; exact hj), h]
end
section
variable {P : Program} {n : FK} {w0 w w' : World} {H0 H H' : Hp} {Q : Exit → Act → World → Prop} {env : List (Nat × Value)} {L L' : List Loc} {ops rest : List Oper} {α : Type} [Enc α]
theorem X.storeRowE [Tys P] {t ty : TypeId} {p x : Operand} {pos : String} {after : Array Edge} {g : Option (Nat × Bool)} {b o m c size : Nat} {e : TypeId} {xs ys vs : List Value} {v : Value} {k : TyK} (i : Nat) (hk : tyk P t = some k)
    (hp : ev env p = some (.pointer (some ⟨b, o, none⟩))) (hx : ev env x = some v) (hi : L[i]? = some (.row (.slice (some ⟨b, 0, none⟩) m c) e size m xs)) (hv : v.cells = vs.toArray) (hl : vs.length = k.size) (h1 : vs.all (·.oneCell') = true) (ho : o + vs.length ≤ m * size) (he : putCells xs o vs = ys) :
    X P n w0 H0 env H L ⟨none, .store t p x, ty, pos, after, g⟩ false (G := Unit) (fun _ => True) (fun _ => env) (fun _ => H) (fun _ => L.set i (.row (.slice (some ⟨b, 0, none⟩) m c) e size m ys)) := by
  subst he
  exact X.storeRow i hk hp hx hi hv hl h1 ho
theorem St.rowShape {v : Value} {e : TypeId} {size m : Nat} {xs : List Value} (hs : St w0 H0 H L w) (hm : Loc.row v e size m xs ∈ L) : ∃ (o : Option Nat) (c : Nat), v = .slice (o.map fun g => ⟨g, 0, none⟩) m c ∧ (o = none → m = 0 ∧ c = 0) := by
  rcases (show w.ownsRow w0.heap.size e size v m xs from hs.ok _ hm).2 with ⟨rfl, rfl⟩ | ⟨g, cap, cur, rfl, _⟩
  · exact ⟨none, 0, rfl, fun _ => ⟨rfl, rfl⟩⟩
  · exact ⟨some g, cap, rfl, fun h => by cases h⟩
end
end Go.Proofs.YtepljgpikfeklaaGreatDoor
namespace Go.Proofs.YtepljgpikfeklaaGreatDoor
set_option linter.unusedVariables false
set_option linter.unusedSimpArgs false
open Go Go.RowKit
open Enc (enc)
section
variable {P : Program} {n : FK} {S : World → Prop} {env : List (Nat × Value)}
theorem V.half {t u : TypeId} {x y : Operand} {q r : IntKind} {a b : Nat} (hx : ev env x = some (.int q ((a : Int) + (b : Int)))) (hy : ev env y = some (.int r 1)) : V P n S env (.binOp .shr t x y u) (.int q (((a + b) / 2 : Nat) : Int)) := by
  have h := V.shr (P := P) (n := n) (S := S) (t := t) (u := u) hx hy (by decide)
  have e : ((a : Int) + (b : Int)).fdiv (2 ^ (1 : Int).toNat) = (((a + b) / 2 : Nat) : Int) := by
    rw [show (2 : Int) ^ (1 : Int).toNat = 2 from rfl, Int.fdiv_eq_ediv_of_nonneg _ (by decide)]
    omega
  rw [e] at h
  exact h
end
section
variable {P : Program} {n : FK} {w0 w w' : World} {H0 H H' : Hp} {Q : Exit → Act → World → Prop} {env : List (Nat × Value)} {L L' : List Loc} {ops rest : List Oper} {α : Type} [Enc α]
theorem X.callFE {G : Type} {φ : G → Prop} {v : G → Value} {H' : G → Hp} {d : Nat} {f : FuncId} {args : Array Operand} {tys : Array TypeId} {ty : TypeId} {pos : String} {after : Array Edge} {g : Option (Nat × Bool)} {vs : List Value} (us : List Value)
    (hcall : ∀ (args : Array Value) (w : World), (callFunc f args).run P w = .ok (.enter f args) w) (hn : Nat.blt d n.n = true)
    (hargs : evs env args.toList = some vs) (he : vs = us) (hc : ∀ w, St w0 H0 H L w → Calls P f us.toArray w (RetF w H φ v H')) :
    X P n w0 H0 env H L ⟨some d, .call { callee := .value (.func f), args := args, argTypes := tys }, ty, pos, after, g⟩ true (fun g => φ g ∧ H.le (H' g)) (fun g => (d, v g) :: env) H' (fun _ => L) := by
  subst he
  exact X.callF0 hcall hn hargs hc
theorem X.storeTo [Tys P] {t ty : TypeId} {p x : Operand} {pos : String} {after : Array Edge} {g : Option (Nat × Bool)} {b o : Nat} {T : TypeId} {cs vs : List Value} {v : Value} {k : TyK} (i : Nat) (cs' : List Value) (hk : tyk P t = some k)
    (hp : ev env p = some (.pointer (some ⟨b, o, none⟩))) (hx : ev env x = some v) (hi : L[i]? = some (.blk b T cs)) (hv : v.cells = vs.toArray) (hl : vs.length = k.size) (h1 : vs.all (·.oneCell') = true) (ho : Nat.ble (o + vs.length) cs.length = true)
    (hc : putCells cs o vs = cs') {L' : List Loc} (hL' : L.set i (.blk b T cs') = L') : X P n w0 H0 env H L ⟨none, .store t p x, ty, pos, after, g⟩ false (G := Unit) (fun _ => True) (fun _ => env) (fun _ => H) (fun _ => L') := by
  subst hc
  exact X.store i hk hp hx hi hv hl h1 ho hL'
theorem X.callRE {d : Nat} {f : FuncId} {args : Array Operand} {tys : Array TypeId} {ty : TypeId} {pos : String} {after : Array Edge} {g : Option (Nat × Bool)} {vs : List Value} {v : Value} (us : List Value)
    (hcall : ∀ (args : Array Value) (w : World), (callFunc f args).run P w = .ok (.enter f args) w) (hn : Nat.blt d n.n = true)
    (hargs : evs env args.toList = some vs) (he : vs = us) (hc : ∀ w, St w0 H0 H L w → Calls P f us.toArray w (Ret w v)) :
    X P n w0 H0 env H L ⟨some d, .call { callee := .value (.func f), args := args, argTypes := tys }, ty, pos, after, g⟩ true (G := Unit) (fun _ => True) (fun _ => (d, v) :: env) (fun _ => H) (fun _ => L) := by
  subst he
  exact X.callR0 hcall hn hargs hc
end
end Go.Proofs.YtepljgpikfeklaaGreatDoor
namespace Go.Proofs.YtepljgpikfeklaaGreatDoor
set_option linter.unusedVariables false
set_option linter.unusedSimpArgs false
open Go Go.RowKit
open Enc (enc)
theorem fill_parts (size : Nat) : ∀ (vs : List Value) (i : Nat) (cs pre : List Value), (∀ v ∈ vs, v.cells.toList.length = size) → cs.length = (i + vs.length) * size → cs.take (i * size) = pre → fillL (fun i => some (i * size, size)) cs (nums i vs) = some (pre ++ vs.flatMap (·.cells.toList))
  | [], i, cs, pre, _, hl, hp => by
    simp only [List.length_nil, Nat.add_zero] at hl
    rw [List.take_of_length_le (by omega)] at hp
    subst hp
    simp [nums, fillL]
  | v :: vs, i, cs, pre, hv, hl, hp => by
    have hv0 := hv v (by simp)
    have e1 : (i + 1) * size = i * size + size := by rw [Nat.add_mul, Nat.one_mul]
    have hle : i * size + size ≤ cs.length := by
      rw [hl, ← e1]
      exact Nat.mul_le_mul_right _ (by simp)
    have htk : (putCells cs (i * size) v.cells.toList).take ((i + 1) * size) = pre ++ v.cells.toList := by
      rw [e1, putCells_take _ _ _ _ (by rw [hv0]; exact Nat.le_refl _), put_all _ _ _ pre (by rw [List.length_take, hv0]; omega) (by rw [List.take_take, Nat.min_eq_left (by omega)]; exact hp)]
    have ih := fill_parts size vs (i + 1) (putCells cs (i * size) v.cells.toList) _ (fun u hu => hv u (by simp [hu])) (by rw [putCells_length, hl]; simp only [List.length_cons]; congr 1; omega) htk
    simp only [nums, fillL]
    rw [show (Nat.beq v.cells.toList.length size && Nat.ble (i * size + size) cs.length) = true by rw [hv0]; simp [hle]]
    simp only [cond_true]
    rw [ih]
    simp [List.append_assoc]
section
variable {P : Program} {n : FK} {w0 w w' : World} {H0 H H' : Hp} {Q : Exit → Act → World → Prop} {env : List (Nat × Value)} {L L' : List Loc} {ops rest : List Oper}
theorem X.buildParts [Tys P] {d : Nat} {t e ty m : Nat} {parts : Array (Nat × Operand)} {pos : String} {after : Array Edge} {g : Option (Nat × Bool)} {k ke : TyK} {vs : List Value} (cs : List Value) (hn : Nat.blt d n.n = true) (hk : tyk P t = some k) (hd : k.desc = .slice e) (hke : tyk P e = some ke) (hp' : evOnes env 0 parts.toList = some vs)
    (hv : vs.all (fun v => Nat.beq v.cells.toList.length ke.size) = true) (hm : vs.length = m) (hsm : Nat.ble (m * ke.size) 16777216 = true) (h0 : Nat.beq (m * ke.size) 0 = false) (hz : Nat.beq ke.zero.cells.size ke.size = true) (hcs : vs.flatMap (·.cells.toList) = cs) :
    X P n w0 H0 env H L ⟨some d, .buildSlice t m parts, ty, pos, after, g⟩ true (G := Nat) (fun _ => True) (fun b => (d, .slice (some ⟨b, 0, none⟩) m m) :: env) (fun _ => H) (fun b => .blk b e cs :: L) :=
  ⟨fun a w hf hs K Q hK => by
    have hp := evOnes_evp hp'
    have hv' : ∀ v ∈ vs, v.cells.toList.length = ke.size := fun v hv0 => Nat.eq_of_beq_eq_true (List.all_eq_true.1 hv v hv0)
    obtain ⟨dd, hu, hf'⟩ := (tyk_ok hk).und
    rw [hd] at hf'
    simp only [TyD.fits] at hf'
    subst hf'
    have hsm' := Nat.le_of_ble_eq_true hsm
    have h0' : m * ke.size ≠ 0 := fun e => by rw [e] at h0; simp at h0
    have hparts : parts.map (fun (p : Nat × Operand) => (p.1, a.eval p.2)) = (nums 0 vs).toArray := by
      apply Array.toList_inj.1
      simpa using hf.evp hp
    unfold Oper.wp
    have hfill : ∀ (zs : Array Value), zs.size = m * ke.size → Instr.fill (fun i => some (i * ke.size, ke.size)) zs (nums 0 vs) = some cs.toArray := by
      intro zs hz
      have hz' : zs = zs.toList.toArray := by simp
      rw [hz']
      apply fill_eq
      rw [fill_parts ke.size vs 0 zs.toList [] hv' (by simp [hz, hm]) (by simp), hcs]
      simp
    have : (execOp a.eval ⟨some d, .buildSlice t m parts, ty, pos, after, g⟩).run P w = .ok (.value (.slice (some ⟨w.heap.size, 0, none⟩) m m)) (w.alloc (.cells cs.toArray e)) := by
      unfold execOp
      simp only [Instr.buildSlice, Sem.run_bind, run_underlying hu, Result.andThen_ok, (tyk_ok hke).sizeOf w, hparts]
      rw [if_neg (by omega), if_neg h0']
      simp only [Sem.run_bind, (tyk_ok hke).zeroRun w, Result.andThen_ok, Sem.run_pure]
      have := hfill ((Array.range (m * ke.size)).map (fun x => ke.zero.cells[x % ke.zero.cells.size]!)) (by simp)
      rw [this]
      simp [newRow, newObj]
      rfl
    rw [this]
    exact hK _ _ _ trivial (fun _ => (Below.refl _ _).alloc (Nat.le_refl _) _) (hf.put hn _) (hs.blk e cs)⟩
end
end Go.Proofs.YtepljgpikfeklaaGreatDoor
namespace Go.Proofs.YtepljgpikfeklaaGreatDoor
set_option linter.unusedVariables false
set_option linter.unusedSimpArgs false
open Go Go.RowKit
open Enc (enc)
set_option linter.unusedSectionVars false
section
variable {P : Program} {n : FK} {S : World → Prop} {env : List (Nat × Value)}
theorem V.lenE [Tys P] {t e : TypeId} {tys : Array TypeId} {x : Operand} {A : Option Addr} {m c j : Nat} {k : TyK} (ht : tys[0]? = some t) (hk : tyk P t = some k) (hd : k.desc = .slice e) (hx : ev env x = some (.slice A m c)) (hm : m = j) : V P n S env (.call { callee := .builtin .len, args := #[x], argTypes := tys }) (intV j) := by
  subst hm
  exact V.len ht hk hd hx
theorem V.eqlE {k : IntKind} {t u : TypeId} {x y : Operand} {i j : Int} (hij : i = j) (hx : ev env x = some (.int k i)) (hy : ev env y = some (.int k j)) : V P n S env (.binOp .eql t x y u) (.bool true) := by
  have h := V.eql (P := P) (n := n) (S := S) (t := t) (u := u) hx hy
  rwa [decide_eq_true hij] at h
theorem V.eqlT {k : IntKind} {t u : TypeId} {x y : Operand} {i : Int} (hx : ev env x = some (.int k i)) (hy : ev env y = some (.int k i)) : V P n S env (.binOp .eql t x y u) (.bool true) := V.eqlE rfl hx hy
theorem V.eqlF {k : IntKind} {t u : TypeId} {x y : Operand} {i j : Int} (hij : i ≠ j) (hx : ev env x = some (.int k i)) (hy : ev env y = some (.int k j)) : V P n S env (.binOp .eql t x y u) (.bool false) := by
  have h := V.eql (P := P) (n := n) (S := S) (t := t) (u := u) hx hy
  rwa [decide_eq_false hij] at h
theorem V.max {tys : Array TypeId} {x y : Operand} {i j M : Int} (hM : (if j > i then j else i) = M) (hx : ev env x = some (intV i)) (hy : ev env y = some (intV j)) : V P n S env (.call { callee := .builtin .max, args := #[x, y], argTypes := tys }) (intV M) :=
  ⟨fun o a w ho hf _ => by
    subst hM
    unfold execOp; rw [ho]
    simp [hf.ev hx, hf.ev hy, resolve, invoke, builtin, Builtin.max_, Builtin.max2]⟩
theorem V.min {tys : Array TypeId} {x y : Operand} {i j M : Int} (hM : (if j < i then j else i) = M) (hx : ev env x = some (intV i)) (hy : ev env y = some (intV j)) : V P n S env (.call { callee := .builtin .min, args := #[x, y], argTypes := tys }) (intV M) :=
  ⟨fun o a w ho hf _ => by
    subst hM
    unfold execOp; rw [ho]
    simp [hf.ev hx, hf.ev hy, resolve, invoke, builtin, Builtin.min_, Builtin.min2]⟩
end
section
variable {P : Program} {n : FK} {w0 : World} {H0 H HS : Hp} {Q : Exit → Act → World → Prop} {env : List (Nat × Value)} {L LS : List Loc} {ops rest : List Oper} {K : KZ} {k : Nat} {ex : List Nat} {fuel : Nat} {ok : Bool}
theorem TL.callE {d : Nat} {f : FuncId} {args : Array Operand} {tys : Array TypeId} {ty : TypeId} {pos : String} {after : Array Edge} {g : Option (Nat × Bool)} {vs : List Value} {v : Value} (us : List Value)
    (hcall : ∀ (args : Array Value) (w : World), (callFunc f args).run P w = .ok (.enter f args) w) (hn : Nat.blt d n.n = true)
    (hw : want ops env ⟨some d, .call { callee := .value (.func f), args := args, argTypes := tys }, ty, pos, after, g⟩ = some true) (hargs : evs env args.toList = some vs) (he : vs = us)
    (hc : ∀ w, St w0 H0 H L w → Calls P f us.toArray w (Ret w v)) (h : TL P n w0 H0 ops Q rest ((d, v) :: env) H L) :
    TL P n w0 H0 ops Q (⟨some d, .call { callee := .value (.func f), args := args, argTypes := tys }, ty, pos, after, g⟩ :: rest) env H L := by
  subst he
  exact TL.call0 hcall hn hw hargs hc h
theorem GT.callE {f : FuncId} (us : List Value) (hcall : ∀ (args : Array Value) (w : World), (callFunc f args).run P w = .ok (.enter f args) w) {d : Nat} {args : Array Operand} {tys : Array TypeId} {ty : TypeId} {pos : String} {after : Array Edge} {g : Option (Nat × Bool)} {vs : List Value} {v : Value}
    (hi : ops[k]? = some ⟨some d, .call { callee := .value (.func f), args := args, argTypes := tys }, ty, pos, after, g⟩) (hm : mqAt ops k = true) (hn : Nat.blt d n.n = true)
    (hw : want ops env ⟨some d, .call { callee := .value (.func f), args := args, argTypes := tys }, ty, pos, after, g⟩ = some true) (hargs : evs env args.toList = some vs) (he : vs = us)
    (hcc : ∀ w, St w0 H0 HS LS w → Calls P f us.toArray w (Ret w v)) (hc : chk ops k ex = true)
    (h : GT P n w0 H0 ops K HS LS true fuel (k + 1) ex ((d, v) :: env) H L) : GT P n w0 H0 ops K HS LS true (fuel + 1) k ex env H L := by
  subst he
  exact GT.call0 hcall hi hm hn hw hargs hcc hc h
end
section
variable {α : Type} [Enc α] {H : Hp}
def Slc.to (s : Slc α) (i : Nat) : Slc α := ⟨s.A, i, s.cap, s.els.take i⟩
variable {P : Program} {n : FK} {S : World → Prop} {env : List (Nat × Value)}
theorem V.sliceTo [Tys P] {t e : TypeId} {x y : Operand} {s : Slc α} {i : Int} {k ke : TyK} {q : IntKind} (hk : tyk P t = some k) (hd : k.desc = .slice e) (hke : tyk P e = some ke) (hx : ev env x = some s.v) (hy : ev env y = some (.int q i)) (hi : 0 ≤ i ∧ i ≤ s.len) (hc : s.len ≤ s.cap) :
    V P n S env (.slice t x none (some y) none) (s.to i.toNat).v :=
  ⟨fun o A w ho hf _ => by
    obtain ⟨d, hu, hf'⟩ := (tyk_ok hk).und
    rw [hd] at hf'
    simp only [TyD.fits] at hf'
    subst hf'
    have h1 := run_bound (P := P) (w := w) (k := q) (i := i) (j := i.toNat) (y := s.cap) (c := .sliceAcap) (by omega) (by omega)
    unfold execOp; rw [ho]
    simp [hf.ev hx, hf.ev hy, Instr.sliceAt, Instr.slice, Instr.sliceBounds, run_underlying hu, h1, (tyk_ok hke).sizeOf w, Slc.to]
    cases s.A <;> simp [Addr.add]⟩
end
end Go.Proofs.YtepljgpikfeklaaGreatDoor
namespace Go.Proofs.YtepljgpikfeklaaGreatDoor
set_option linter.unusedVariables false
set_option linter.unusedSimpArgs false
open Go Go.RowKit
open Enc (enc)
section
variable {P : Program} {n : FK} {w0 : World} {H0 HS H : Hp} {K : KZ} {Q : Exit → Act → World → Prop} {env : List (Nat × Value)} {LS L : List Loc} {ops : List Oper} {ok : Bool} {fuel k : Nat} {ex : List Nat}
theorem T.regionDS {id : Nat} (LS : List Loc) (hm : P.follows .mixedOrders = true) (hnd : ops.all nd = true) (hL : List.Sublist LS L) (h : GT P n w0 H0 ops (KZ.of Q) H LS true ops.length 0 [] env H L) : T P n w0 H0 (.region id ops.toArray true) Q env H L :=
  ⟨fun a w hf hs => by
    have hd : St w0 H0 H L { w with drawn := w.drawn + 1 } := hs.drew
    have h1 := (h.out (by rw [← marks_none]; exact closed_none _ _) a _ hf hd (fun _ => hd.sub hL)).any
    rw [← marks_none] at h1
    refine wpIn_mono (wpIn_region_any (Q := Norm (KZ.of Q)) hm (any_bridge (by simpa using hnd) (by simpa using h1))) fun e a' w' hh => hh.of⟩
theorem GS.effS {j : Nat} {o : Oper} {gr : Bool} {G' : Type} {φ : G' → Prop} {E : G' → List (Nat × Value)} {HH : G' → Hp} {LL : G' → List Loc} (hi : ops[j]? = some o) (hw : want ops env o = some true) (hx : X P n w0 H0 env H L o gr φ E HH LL) (hH : ∀ g, HH g = HS) (hL : ∀ g, List.Sublist LS (LL g))
    (h : ∀ g, φ g → GT P n w0 H0 ops K HS LS true fuel k (j :: ex) (E g) (HH g) (LL g)) : GS P n w0 H0 ops K HS LS ok fuel k ex env H L j :=
  ⟨fun hcl a w hf hs hk => by
    unfold wpOp
    have hi' : ops.toArray[j]? = some o := by simpa using hi
    simp only [hi']
    rw [want_spec hf hw, if_pos rfl]
    refine .inl (hx.out a w hf hs _ _ fun g a' w' hg hb hf' hs' => ?_)
    have hk' : St w0 H0 HS LS w' := by
      have h1 := hs'.sub (hL g)
      rw [hH g] at h1
      exact h1
    exact ⟨fun i _ _ _ _ => hk', (h g hg).out hcl a' w' hf' hs' fun _ => hk'⟩⟩
end
end Go.Proofs.YtepljgpikfeklaaGreatDoor
namespace Go.Proofs.YtepljgpikfeklaaGreatDoor
set_option linter.unusedVariables false
set_option linter.unusedSimpArgs false
open Go Go.RowKit
open Enc (enc)
set_option linter.unusedSectionVars false
section
variable {α : Type} [Enc α]
theorem made_encs {z : Value} {z0 : α} (h : z.cells.toList = enc z0) (m : Nat) : (madeCells z.cells (m * Enc.size α)).toList = encs (List.replicate m z0) := by
  have hz : z.cells = (enc z0).toArray := by rw [← h]
  have hp := Enc.pos (α := α)
  rw [hz]
  apply List.ext_getElem?
  intro q
  by_cases hq : q < m * Enc.size α
  · have hk : q / Enc.size α < m := Nat.div_lt_of_lt_mul (by rw [Nat.mul_comm]; exact hq)
    have hi : q % Enc.size α < Enc.size α := Nat.mod_lt _ hp
    have ej : q / Enc.size α * Enc.size α + q % Enc.size α = q := by rw [Nat.mul_comm]; exact Nat.div_add_mod _ _
    have hv : (enc z0)[q % Enc.size α]? = some ((enc z0)[q % Enc.size α]'(by rw [Enc.len]; exact hi)) := List.getElem?_eq_getElem _
    have e := encs_get (List.replicate m z0) _ _ z0 _ (by rw [List.getElem?_replicate, if_pos hk]) hv
    rw [ej] at e
    rw [e]
    have hsz : (enc z0).length = Enc.size α := Enc.len z0
    simp [madeCells, hq, hsz, List.getElem!_eq_getElem?_getD, hv]
  · have h1 : (madeCells (enc z0).toArray (m * Enc.size α)).toList.length ≤ q := by simp [madeCells]; omega
    have h2 : (encs (List.replicate m z0)).length ≤ q := by rw [encs_length, List.length_replicate]; omega
    rw [List.getElem?_eq_none h1, List.getElem?_eq_none h2]
theorem putCells_head : ∀ (vs cs : List Value) (o k : Nat), k ≤ o → (putCells cs o vs).take k = cs.take k
  | [], _, _, _, _ => rfl
  | v :: vs, cs, o, k, h => by
    rw [putCells, putCells_head vs _ (o + 1) k (by omega), List.take_set_of_le h]
theorem encs_take (l : List α) (k : Nat) : (encs l).take (k * Enc.size α) = encs (l.take k) := by
  by_cases h : k ≤ l.length
  · have e : encs l = encs (l.take k) ++ encs (l.drop k) := by rw [← encs_append, List.take_append_drop]
    have hl : (encs (l.take k)).length = k * Enc.size α := by rw [encs_length, List.length_take, Nat.min_eq_left h]
    rw [e, ← hl, List.take_left]
  · rw [List.take_of_length_le (show l.length ≤ k by omega), List.take_of_length_le]
    rw [encs_length]
    exact Nat.mul_le_mul_right _ (by omega)
end
section
variable {P : Program} {n : FK} {w0 : World} {H0 H : Hp} {Q : Exit → Act → World → Prop} {env : List (Nat × Value)} {L : List Loc} {ops rest : List Oper} {α : Type} [Enc α]
theorem X.makeSlice [Tys P] (z0 : α) (m : Nat) {d : Nat} {t e ty : TypeId} {x y : Operand} {pos : String} {after : Array Edge} {g : Option (Nat × Bool)} {k ke : TyK} {kl kc : IntKind} {i j : Int} (hn : Nat.blt d n.n = true) (hk : tyk P t = some k) (hd : k.desc = .slice e) (hke : tyk P e = some ke)
    (hx : ev env x = some (.int kl i)) (hy : ev env y = some (.int kc j)) (hi : i = m) (hj : j = m) (hz : ke.zero.cells.toList = enc z0) (hsz : ke.size = Enc.size α) (hb : ke.bytes * m ≤ 281474976710656) (h63 : m ≤ 9223372036854775807) :
    X P n w0 H0 env H L ⟨some d, .makeSlice t x y, ty, pos, after, g⟩ true (G := Nat) (fun _ => True) (fun b => (d, .slice (some ⟨b, 0, none⟩) m m) :: env) (fun _ => H) (fun b => .row (.slice (some ⟨b, 0, none⟩) m m) e ke.size m (encs (List.replicate m z0)) :: L) :=
  ⟨fun a w hf hs K Q hK => by
    obtain ⟨dd, hu, hf'⟩ := (tyk_ok hk).und
    rw [hd] at hf'
    simp only [TyD.fits] at hf'
    subst hf'
    subst hi hj
    obtain ⟨inf, hinf, e1, e2, e3⟩ := (tyk_ok hke).get
    have hb' : (inf.bytes : Int) * (m : Int) ≤ 281474976710656 := by
      have h : ((ke.bytes * m : Nat) : Int) ≤ 281474976710656 := by omega
      rw [e2]
      rwa [Int.natCast_mul] at h
    have hr := run_make (P := P) w t e inf ke.zero hu hinf e3 kl kc (m : Int) (m : Int) (by omega) (Int.le_refl _) hb' (by omega)
    simp only [Int.toNat_natCast] at hr
    have : (execOp a.eval ⟨some d, .makeSlice t x y, ty, pos, after, g⟩).run P w = .ok (.value (.slice (some ⟨w.heap.size, 0, none⟩) m m)) (w.alloc (.cells (madeCells ke.zero.cells (m * inf.size)) e)) := by
      unfold execOp
      simp only [hf.ev hx, hf.ev hy, Sem.run_bind, hr]
      rfl
    unfold Oper.wp
    rw [this]
    refine hK _ _ _ trivial (fun _ => (Below.refl _ _).alloc (Nat.le_refl _) _) (hf.put hn _) (hs.alloc (e := .row (.slice (some ⟨w.heap.size, 0, none⟩) m m) e ke.size m (encs (List.replicate m z0))) rfl ?_)
    have hm := made_encs hz m
    refine ⟨by rw [encs_length, List.length_replicate, hsz], .inr ⟨w.heap.size, m, _, rfl, hs.below.size, heap_alloc_new w _, Nat.le_refl _, h63, ?_, ?_⟩⟩
    · rw [size_madeCells, e1]
    · rw [e1, hsz, hm, List.take_of_length_le]
      rw [encs_length, List.length_replicate]
      exact Nat.le_refl _⟩
theorem set_same {i : Nat} {e : Loc} (h : L[i]? = some e) : L.set i e = L := by
  apply List.ext_getElem?
  intro j
  rw [List.getElem?_set]
  by_cases e' : i = j
  · subst e'
    rw [if_pos rfl, h, if_pos (List.getElem?_eq_some_iff.1 h).1]
  · rw [if_neg e']
theorem St.rowStores {w : World} (hs : St w0 H0 H L w) {i b m c size o : Nat} {e : TypeId} {xs vs : List Value} (hi : L[i]? = some (.row (.slice (some ⟨b, 0, none⟩) m c) e size m xs)) (ho : o + vs.length ≤ m * size) (h1 : ∀ v ∈ vs, v.oneCell' = true) : (storeCells ⟨b, o, none⟩ vs 0).run P w = .ok () (w.setCells b o vs) := by
  obtain ⟨cur, h1', h2, h3, h4, h5, h6, h7⟩ := hs.row_get (List.mem_of_getElem? hi)
  have hmc : m * size ≤ c * size := Nat.mul_le_mul_right _ h4
  have hst := run_storeCells_cells (P := P) b o vs 0 w (fun j hj => by
    have : o + 0 + j < cur.size := by omega
    simp [World.cell?, h1', this]
    omega) (fun j hj => by simp [World.frozen?, h1']) h1
  simpa using hst
theorem St.cutRow {w : World} (hs : St w0 H0 H L w) {i b m c size k : Nat} {e : TypeId} {xs : List Value} (hi : L[i]? = some (.row (.slice (some ⟨b, 0, none⟩) m c) e size m xs)) (hk : k ≤ m) : St w0 H0 H (L.set i (.row (.slice (some ⟨b, 0, none⟩) k c) e size k (xs.take (k * size)))) w := by
  obtain ⟨cur, h1, h2, h3, h4, h5, h6, h7⟩ := hs.row_get (List.mem_of_getElem? hi)
  have hkm : k * size ≤ m * size := Nat.mul_le_mul_right _ hk
  refine hs.set (w' := w) hi rfl rfl (fun _ _ => rfl) rfl rfl rfl rfl (Nat.le_refl _) ?_
  refine ⟨by rw [List.length_take, h3]; exact Nat.min_eq_left hkm, .inr ⟨b, c, cur, rfl, h2, h1, Nat.le_trans hk h4, h5, h6, ?_⟩⟩
  rw [← h7, List.take_take, Nat.min_eq_left hkm]
theorem X.copyRow [Tys P] (i : Nat) (s : Slc α) {d : Nat} {t t' e ty : TypeId} {x y : Operand} {pos : String} {after : Array Edge} {g : Option (Nat × Bool)} {k ke : TyK} {b m c : Nat} {xs : List Value} (hn : Nat.blt d n.n = true) (hk : tyk P t = some k) (hd : k.desc = .slice e) (hke : tyk P e = some ke)
    (hx : ev env x = some (.slice (some ⟨b, 0, none⟩) m c)) (hi : L[i]? = some (.row (.slice (some ⟨b, 0, none⟩) m c) e ke.size m xs)) (hy : ev env y = some s.v) (hsz : ke.size = Enc.size α) (hg : s.Good H) (hm : s.len = m) :
    X P n w0 H0 env H L ⟨some d, .call { callee := .builtin .copy, args := #[x, y], argTypes := #[t, t'] }, ty, pos, after, g⟩ false (G := Unit) (fun _ => True) (fun _ => (d, intV m) :: env) (fun _ => H) (fun _ => L.set i (.row (.slice (some ⟨b, 0, none⟩) m c) e ke.size m (encs s.els))) :=
  ⟨fun a w hf hs K Q hK => by
    obtain ⟨dd, hu, hf'⟩ := (tyk_ok hk).und
    rw [hd] at hf'
    simp only [TyD.fits] at hf'
    subst hf'
    obtain ⟨inf, hinf, e1, e2, e3⟩ := (tyk_ok hke).get
    have hl : (encs s.els).length = m * ke.size := by rw [encs_length, hg.len, hsz, hm]
    obtain ⟨cur, h1', h2, h3, h4, h5, h6, h7⟩ := hs.row_get (List.mem_of_getElem? hi)
    have hst := hs.rowStores (P := P) (o := 0) (vs := encs s.els) hi (by rw [hl]; omega) (fun u hu => encs_one _ u hu)
    have hput : putCells xs 0 (encs s.els) = encs s.els := by
      rw [put_all _ _ _ [] (by rw [hl, h3]; omega) (by simp)]; rfl
    have hs2 := hs.storeRow (o := 0) (vs := encs s.els) hi (by rw [hl]; omega)
    rw [hput] at hs2
    have hrun : (Builtin.copy_ #[t, t'] ty #[.slice (some ⟨b, 0, none⟩) m c, s.v]).run P w = .ok (intV m) (w.setCells b 0 (encs s.els)) := by
      cases hA : s.A with
      | some ad =>
        have hld := run_loadCells_list (P := P) w ad (encs s.els) (fun q u hu => by
          have hq := (List.getElem?_eq_some_iff.1 hu).1
          have hpos : 0 < s.len := Nat.pos_of_ne_zero fun e => by rw [hl, ← hm, e, Nat.zero_mul] at hq; omega
          have := hg.at_ hpos
          rw [hA] at this
          rw [Option.some.inj this, Addr.add_mid]
          exact hs.sat.cell (hg.all q u hu))
        rw [hl] at hld
        have hv : s.v = .slice (some ad) m s.cap := by unfold Slc.v; rw [hA, hm]
        rw [hv]
        simp [Builtin.copy_, run_underlying hu, Builtin.lenOf, Builtin.firstCells, sizeOf, typeInfo, hinf, e1, hA, hm, hld, hst]
        rfl
      | none =>
        have hl0 : s.len = 0 := by
          rcases Nat.eq_zero_or_pos s.len with h | h
          · exact h
          · have := hg.at_ h; rw [hA] at this; cases this
        have hels : s.els = [] := List.eq_nil_of_length_eq_zero (by rw [hg.len]; exact hl0)
        have hv : s.v = .slice none 0 s.cap := by unfold Slc.v; rw [hA, hl0]
        have hm0 : m = 0 := by omega
        rw [hv, hels, encs_nil]
        subst hm0
        simp [Builtin.copy_, run_underlying hu, Builtin.lenOf, Builtin.firstCells, sizeOf, typeInfo, hinf, e1, storeCells, World.setCells]
        rfl
    have : (execOp a.eval ⟨some d, .call { callee := .builtin .copy, args := #[x, y], argTypes := #[t, t'] }, ty, pos, after, g⟩).run P w = .ok (.value (intV m)) (w.setCells b 0 (encs s.els)) := by
      unfold execOp
      simp [resolve, invoke, builtin, hf.ev hx, hf.ev hy, hrun]
    unfold Oper.wp
    rw [this]
    exact hK () _ _ trivial (fun h => by cases h) (hf.put hn _) hs2⟩
theorem X.clearRow [Tys P] (i k : Nat) {t e ty : TypeId} {x : Operand} {pos : String} {after : Array Edge} {g : Option (Nat × Bool)} {kk ke : TyK} {b m c j c' : Nat} {xs : List Value} {A : Option Addr} (hk : tyk P t = some kk) (hd : kk.desc = .slice e) (hke : tyk P e = some ke)
    (hx : ev env x = some (.slice A j c')) (hA : 0 < j → A = some ⟨b, k * ke.size, none⟩) (hj : k + j = m) (hz : Nat.beq ke.zero.cells.size ke.size = true) (h1 : ke.zero.cells.toList.all (·.oneCell') = true) (hi : L[i]? = some (.row (.slice (some ⟨b, 0, none⟩) m c) e ke.size m xs)) :
    X P n w0 H0 env H L ⟨none, .call { callee := .builtin .clear, args := #[x], argTypes := #[t] }, ty, pos, after, g⟩ false (G := Unit) (fun _ => True) (fun _ => env) (fun _ => H) (fun _ => L.set i (.row (.slice (some ⟨b, 0, none⟩) k c) e ke.size k (xs.take (k * ke.size)))) :=
  ⟨fun a w hf hs K Q hK => by
    obtain ⟨dd, hu, hf'⟩ := (tyk_ok hk).und
    rw [hd] at hf'
    simp only [TyD.fits] at hf'
    subst hf'
    have hz' := Nat.eq_of_beq_eq_true hz
    have hlen : (Builtin.zeroCells ke.zero.cells j).toList.length = j * ke.size := by simp [Builtin.zeroCells, hz']
    have key : ∃ w', (Builtin.clear_ #[t] ty #[.slice A j c']).run P w = .ok (.tuple #[]) w' ∧ St w0 H0 H (L.set i (.row (.slice (some ⟨b, 0, none⟩) k c) e ke.size k (xs.take (k * ke.size)))) w' := by
      rcases Nat.eq_zero_or_pos j with h0 | h0
      · subst h0
        refine ⟨w, by cases A <;> simp [Builtin.clear_, run_underlying hu], hs.cutRow hi (by omega)⟩
      · have hA' := hA h0
        subst hA'
        have hfit : k * ke.size + (Builtin.zeroCells ke.zero.cells j).toList.length ≤ m * ke.size := by rw [hlen, ← Nat.add_mul, hj]; exact Nat.le_refl _
        have hone : ∀ v ∈ (Builtin.zeroCells ke.zero.cells j).toList, v.oneCell' = true := by
          intro v hv
          simp only [Builtin.zeroCells, Array.toList_map, List.mem_map] at hv
          obtain ⟨q, hq, rfl⟩ := hv
          have hq' : q < j * ke.zero.cells.size := by simpa using hq
          have hpos : 0 < ke.zero.cells.size := Nat.pos_of_ne_zero fun e => by rw [e] at hq'; simp at hq'
          have hlt := Nat.mod_lt q hpos
          rw [getElem!_pos ke.zero.cells _ hlt]
          exact List.all_eq_true.1 h1 _ (by simp)
        have hst := hs.rowStores (P := P) hi hfit hone
        have hs2 := hs.storeRow hi hfit
        have hs3 := hs2.cutRow (i := i) (k := k) (by rw [List.getElem?_set_self (List.getElem?_eq_some_iff.1 hi).1]) (by omega)
        rw [putCells_head _ _ _ _ (Nat.le_refl _), List.set_set] at hs3
        refine ⟨_, ?_, hs3⟩
        obtain ⟨j', rfl⟩ : ∃ j', j = j' + 1 := ⟨j - 1, by omega⟩
        simp [Builtin.clear_, run_underlying hu, (tyk_ok hke).zeroRun w, hst]
    obtain ⟨w', hrun, hs'⟩ := key
    have : (execOp a.eval ⟨none, .call { callee := .builtin .clear, args := #[x], argTypes := #[t] }, ty, pos, after, g⟩).run P w = .ok (.value (.tuple #[])) w' := by
      unfold execOp
      simp [resolve, invoke, builtin, hf.ev hx, hrun]
    unfold Oper.wp
    rw [this]
    exact hK () _ _ trivial (fun h => by cases h) (hf.put_none _) hs'⟩
end
section
variable {P : Program} {n : FK} {w0 : World} {H0 H : Hp} {Q : Exit → Act → World → Prop} {env : List (Nat × Value)} {L : List Loc} {ops rest : List Oper} {α : Type} [Enc α]
theorem perm_of {α : Type} : ∀ {l : List α} {i : Nat} {x : α}, l[i]? = some x → l.Perm (x :: l.eraseIdx i)
  | [], i, x, h => by simp at h
  | a :: l, 0, x, h => by
    simp at h; subst h; exact List.Perm.refl _
  | a :: l, i + 1, x, h => by
    have h' : l[i]? = some x := by simpa using h
    exact ((perm_of h').cons a).trans (List.Perm.swap x a _)
theorem TL.frzRow (i : Nat) {v : Value} {e : TypeId} {size m : Nat} {els : List α} (hi : L[i]? = some (.row v e size m (encs els))) (hsz : size = Enc.size α) (hm : els.length = m) (hg : ∀ x ∈ els, Enc.good H x) (h : ∀ (H' : Hp) (s : Slc α), s.v = v → s.els = els → s.Good H' → H.le H' → TL P n w0 H0 ops Q rest env H' (L.eraseIdx i)) : TL P n w0 H0 ops Q rest env H L :=
  TL.perm _ (perm_of hi) (TL.freezeRow hsz hm hg h)
theorem T.frzRow {c : Code} (i : Nat) {v : Value} {e : TypeId} {size m : Nat} {els : List α} (hi : L[i]? = some (.row v e size m (encs els))) (hsz : size = Enc.size α) (hm : els.length = m) (hg : ∀ x ∈ els, Enc.good H x) (h : ∀ (H' : Hp) (s : Slc α), s.v = v → s.els = els → s.Good H' → H.le H' → T P n w0 H0 c Q env H' (L.eraseIdx i)) : T P n w0 H0 c Q env H L :=
  T.perm _ (perm_of hi) (T.freezeRow hsz hm hg h)
theorem St.frzBlk {w : World} {b m : Nat} {e : TypeId} {els : List α} (hs : St w0 H0 H (.blk b e (encs els) :: L) w) (hm : els.length = m) (hb : m ≤ maxLen) (hg : ∀ x ∈ els, Enc.good H x) : ∃ H' : Hp, (⟨some ⟨b, 0, none⟩, m, m, els⟩ : Slc α).Good H' ∧ H.le H' ∧ St w0 H0 H' L w := by
  have hl : (encs els).length = m * Enc.size α := by rw [encs_length, hm]
  have h1 := hs.blkRow (i := 0) (m := m) (size := Enc.size α) rfl hl hb
  obtain ⟨H', s, e1, e2, e3, e4, e5⟩ := St.freezeRow (α := α) h1 rfl hm hg
  obtain ⟨A, l, c, els'⟩ := s
  simp only [Slc.v, Value.slice.injEq] at e1
  simp only at e2
  obtain ⟨rfl, rfl, rfl⟩ := e1
  subst e2
  exact ⟨H', e3, e4, e5⟩
theorem TL.frzBlk (i : Nat) {b m : Nat} {e : TypeId} {cs : List Value} {els : List α} (hi : L[i]? = some (.blk b e cs)) (hcs : cs = encs els) (hm : els.length = m) (hb : m ≤ maxLen) (hg : ∀ x ∈ els, Enc.good H x) (h : ∀ (H' : Hp), (⟨some ⟨b, 0, none⟩, m, m, els⟩ : Slc α).Good H' → H.le H' → TL P n w0 H0 ops Q rest env H' (L.eraseIdx i)) : TL P n w0 H0 ops Q rest env H L := by
  subst hcs
  refine TL.perm _ (perm_of hi) ⟨fun a w hf hs => ?_⟩
  obtain ⟨H', e3, e4, e5⟩ := hs.frzBlk hm hb hg
  exact (h H' e3 e4).out a w hf e5
theorem encs_rowat {l : List α} {k o : Nat} {x : α} (hk : l[k]? = some x) (ho : o = k * Enc.size α) : ((encs l).drop o).take (Enc.size α) = enc x := by
  subst ho
  have hlt := (List.getElem?_eq_some_iff.1 hk).1
  have hx : l[k] = x := (List.getElem?_eq_some_iff.1 hk).2
  have e1 : l = l.take k ++ ([x] ++ l.drop (k + 1)) := by rw [← hx]; simp
  have hl : (encs (l.take k)).length = k * Enc.size α := by rw [encs_length, List.length_take, Nat.min_eq_left (by omega)]
  have s1 : encs [x] = enc x := by simp [encs]
  conv => lhs; rw [e1]
  rw [encs_append, encs_append, s1, ← hl, List.drop_left, ← Enc.len x, List.take_left]
theorem drop_at {b m c i size : Nat} (h : 0 < m - i) (hc : m ≤ c) : (if c = i then (some ⟨b, 0, none⟩ : Option Addr) else (some (⟨b, 0, none⟩ : Addr)).map (·.add (i * size))) = some ⟨b, i * size, none⟩ := by
  rw [if_neg (by omega)]
  simp only [Option.map_some, Addr.add]
  by_cases h0 : i * size = 0
  · rw [if_pos h0, h0]
  · rw [if_neg h0, Nat.zero_add]
end
end Go.Proofs.YtepljgpikfeklaaGreatDoor
namespace Go.Proofs.YtepljgpikfeklaaGreatDoor
set_option linter.unusedVariables false
set_option linter.unusedSimpArgs false
open Go Go.RowKit
open Enc (enc)
set_option linter.unusedSectionVars false
section
variable {P : Program} {n : FK} {S : World → Prop} {env : List (Nat × Value)}
theorem V.slice3 [Tys P] (lo hi mx : Nat) {t e : TypeId} {x y z u : Operand} {A : Option Addr} {m c : Nat} {i j l : Int} {k ke : TyK} {q r p : IntKind} (hk : tyk P t = some k) (hd : k.desc = .slice e) (hke : tyk P e = some ke) (hx : ev env x = some (.slice A m c)) (hy : ev env y = some (.int q i)) (hz : ev env z = some (.int r j)) (hu : ev env u = some (.int p l)) (h1 : i = lo) (h2 : j = hi) (h3 : l = mx) (h4 : lo ≤ hi) (h5 : hi ≤ mx) (h6 : mx ≤ c) :
    V P n S env (.slice t x (some y) (some z) (some u)) (.slice (if mx = lo then A else A.map (·.add (lo * ke.size))) (hi - lo) (mx - lo)) :=
  ⟨fun o a w ho hf _ => by
    obtain ⟨d, hu', hf'⟩ := (tyk_ok hk).und
    rw [hd] at hf'
    simp only [TyD.fits] at hf'
    subst hf'
    have b1 := run_bound (P := P) (w := w) (k := p) (i := l) (j := mx) (y := c) (c := .slice3Acap) h3 h6
    have b2 := run_bound (P := P) (w := w) (k := r) (i := j) (j := hi) (y := mx) (c := .slice3B) h2 h5
    have b3 := run_bound (P := P) (w := w) (k := q) (i := i) (j := lo) (y := hi) (c := .slice3C) h1 h4
    unfold execOp; rw [ho]
    simp [hf.ev hx, hf.ev hy, hf.ev hz, hf.ev hu, Instr.sliceAt, Instr.slice, Instr.sliceBounds, run_underlying hu', b1, b2, b3, (tyk_ok hke).sizeOf w]⟩
theorem V.slice2 [Tys P] (lo hi : Nat) {t e : TypeId} {x y z : Operand} {A : Option Addr} {m c : Nat} {i j : Int} {k ke : TyK} {q r : IntKind} (hk : tyk P t = some k) (hd : k.desc = .slice e) (hke : tyk P e = some ke) (hx : ev env x = some (.slice A m c)) (hy : ev env y = some (.int q i)) (hz : ev env z = some (.int r j)) (h1 : i = lo) (h2 : j = hi) (h4 : lo ≤ hi) (h5 : hi ≤ c) :
    V P n S env (.slice t x (some y) (some z) none) (.slice (if c = lo then A else A.map (·.add (lo * ke.size))) (hi - lo) (c - lo)) :=
  ⟨fun o a w ho hf _ => by
    obtain ⟨d, hu', hf'⟩ := (tyk_ok hk).und
    rw [hd] at hf'
    simp only [TyD.fits] at hf'
    subst hf'
    have b2 := run_bound (P := P) (w := w) (k := r) (i := j) (j := hi) (y := c) (c := .sliceAcap) h2 h5
    have b3 := run_bound (P := P) (w := w) (k := q) (i := i) (j := lo) (y := hi) (c := .sliceB) h1 h4
    unfold execOp; rw [ho]
    simp [hf.ev hx, hf.ev hy, hf.ev hz, Instr.sliceAt, Instr.slice, Instr.sliceBounds, run_underlying hu', b2, b3, (tyk_ok hke).sizeOf w]⟩
theorem V.slice1 [Tys P] (lo : Nat) {t e : TypeId} {x y : Operand} {A : Option Addr} {m c : Nat} {i : Int} {k ke : TyK} {q : IntKind} (hk : tyk P t = some k) (hd : k.desc = .slice e) (hke : tyk P e = some ke) (hx : ev env x = some (.slice A m c)) (hy : ev env y = some (.int q i)) (h1 : i = lo) (h4 : lo ≤ m) :
    V P n S env (.slice t x (some y) none none) (.slice (if c = lo then A else A.map (·.add (lo * ke.size))) (m - lo) (c - lo)) :=
  ⟨fun o a w ho hf _ => by
    obtain ⟨d, hu', hf'⟩ := (tyk_ok hk).und
    rw [hd] at hf'
    simp only [TyD.fits] at hf'
    subst hf'
    have b3 := run_bound (P := P) (w := w) (k := q) (i := i) (j := lo) (y := m) (c := .sliceB) h1 h4
    unfold execOp; rw [ho]
    simp [hf.ev hx, hf.ev hy, Instr.sliceAt, Instr.slice, Instr.sliceBounds, run_underlying hu', b3, (tyk_ok hke).sizeOf w]⟩
theorem V.slice0 [Tys P] (hi : Nat) {t e : TypeId} {x y : Operand} {b m c : Nat} {i : Int} {k ke : TyK} {q : IntKind} (hk : tyk P t = some k) (hd : k.desc = .slice e) (hke : tyk P e = some ke) (hx : ev env x = some (.slice (some ⟨b, 0, none⟩) m c)) (hy : ev env y = some (.int q i)) (h1 : i = hi) (h4 : hi ≤ c) :
    V P n S env (.slice t x none (some y) none) (.slice (some ⟨b, 0, none⟩) hi c) :=
  ⟨fun o a w ho hf _ => by
    obtain ⟨d, hu', hf'⟩ := (tyk_ok hk).und
    rw [hd] at hf'
    simp only [TyD.fits] at hf'
    subst hf'
    have b3 := run_bound (P := P) (w := w) (k := q) (i := i) (j := hi) (y := c) (c := .sliceAcap) h1 h4
    unfold execOp; rw [ho]
    simp [hf.ev hx, hf.ev hy, Instr.sliceAt, Instr.slice, Instr.sliceBounds, run_underlying hu', b3, (tyk_ok hke).sizeOf w, Addr.add]⟩
end
section
variable {P : Program} {n : FK} {w0 : World} {H0 H : Hp} {Q : Exit → Act → World → Prop} {env : List (Nat × Value)} {L : List Loc} {ops rest : List Oper} {α : Type} [Enc α]
theorem at_some {b c lo size : Nat} : ∃ a, (if c = lo then (some ⟨b, 0, none⟩ : Option Addr) else (some (⟨b, 0, none⟩ : Addr)).map (·.add (lo * size))) = some a := by
  by_cases h : c = lo
  · exact ⟨_, if_pos h⟩
  · exact ⟨_, if_neg h⟩
theorem X.appendSelf [Tys P] (i k j o : Nat) {d : Nat} {t e ty : TypeId} {x y : Operand} {pos : String} {after : Array Edge} {g : Option (Nat × Bool)} {kk ke : TyK} {b m c c' : Nat} {xs news : List Value} {A : Option Addr} (hn : Nat.blt d n.n = true) (hk : tyk P t = some kk) (hd : kk.desc = .slice e) (hke : tyk P e = some ke)
    (hx : ev env x = some (.slice (some ⟨b, 0, none⟩) k c)) (hy : ev env y = some (.slice A j c')) (hi : L[i]? = some (.row (.slice (some ⟨b, 0, none⟩) m c) e ke.size m xs)) (hA : ∃ a, A = some a) (hA2 : 0 < j → A = some ⟨b, o * ke.size, none⟩) (hkj : k + j ≤ m) (ho : o + j = m) (hnews : (xs.drop (o * ke.size)) = news) (h1 : ∀ v ∈ xs, v.oneCell' = true) :
    X P n w0 H0 env H L ⟨some d, .call { callee := .builtin .append, args := #[x, y], argTypes := #[t, t] }, ty, pos, after, g⟩ false (G := Unit) (fun _ => True) (fun _ => (d, .slice (some ⟨b, 0, none⟩) (k + j) c) :: env) (fun _ => H) (fun _ => L.set i (.row (.slice (some ⟨b, 0, none⟩) (k + j) c) e ke.size (k + j) (xs.take (k * ke.size) ++ news))) :=
  ⟨fun a w hf hs K Q hK => by
    subst hnews
    obtain ⟨dd, hu, hf'⟩ := (tyk_ok hk).und
    rw [hd] at hf'
    simp only [TyD.fits] at hf'
    subst hf'
    obtain ⟨inf, hinf, e1, e2, e3⟩ := (tyk_ok hke).get
    obtain ⟨cur, c1, c2, c3, c4, c5, c6, c7⟩ := hs.row_get (List.mem_of_getElem? hi)
    have hcut := hs.cutRow (k := k) hi (by omega)
    have hil := (List.getElem?_eq_some_iff.1 hi).1
    have hi' : (L.set i (.row (.slice (some ⟨b, 0, none⟩) k c) e ke.size k (xs.take (k * ke.size))))[i]? = some (.row (.slice (some ⟨b, 0, none⟩) k c) e ke.size k (xs.take (k * ke.size))) := List.getElem?_set_self hil
    have hown := hcut.ok _ (List.mem_of_getElem? hi')
    obtain ⟨ad, hA⟩ := hA
    subst hA
    have hl : (xs.drop (o * ke.size)).length = j * ke.size := by
      rw [List.length_drop, c3, ← ho, Nat.add_mul]; omega
    obtain ⟨w', hrun, hown', hgr⟩ := run_append_fits (P := P) w w0.heap.size t ty e inf ke.size hu hinf e1 b k c _ hown ad j c' (xs.drop (o * ke.size)) hl (fun q u hq => by
      have hq' := (List.getElem?_eq_some_iff.1 hq).1
      have hpos : 0 < j := Nat.pos_of_ne_zero fun e => by rw [hl, e, Nat.zero_mul] at hq'; omega
      have := hA2 hpos
      rw [Option.some.inj this, Addr.add_mid]
      rw [List.getElem?_drop] at hq
      exact hs.row_cell (List.mem_of_getElem? hi) hq) (fun u hu' => h1 u (List.mem_of_mem_drop hu')) (Nat.le_trans hkj c4)
    have hs' := hcut.turn (e' := .row (.slice (some ⟨b, 0, none⟩) (k + j) c) e ke.size (k + j) (xs.take (k * ke.size) ++ xs.drop (o * ke.size))) hi' (by simpa [Loc.at, Value.ownBlock] using hgr) (run_drawn hrun) (.inl rfl) hown'
    rw [List.set_set] at hs'
    unfold Oper.wp
    rw [run_appendOp (v := .slice (some ⟨b, 0, none⟩) k c) (u := .slice (some ad) j c') rfl (hf.ev hx) (hf.ev hy) hrun]
    exact hK () _ _ trivial (fun h => by cases h) (hf.put hn _) hs'⟩
theorem setCells_same (b : Nat) : ∀ (vs : List Value) (o : Nat) (w : World), (w.setCells b o vs).heap.size = w.heap.size ∧ (w.setCells b o vs).os = w.os ∧ (w.setCells b o vs).tape = w.tape ∧ (w.setCells b o vs).output = w.output
  | [], _, _ => ⟨rfl, rfl, rfl, rfl⟩
  | v :: vs, o, w => by
    rw [World.setCells]
    obtain ⟨h1, h2, h3, h4⟩ := setCells_same b vs (o + 1) (w.setCell ⟨b, o, none⟩ v)
    exact ⟨h1.trans (by simp [World.setCell]), h2, h3, h4⟩
theorem X.clearTail [Tys P] (i o : Nat) {t e ty : TypeId} {x : Operand} {pos : String} {after : Array Edge} {g : Option (Nat × Bool)} {kk ke : TyK} {b m c j c' : Nat} {xs : List Value} {A : Option Addr} (hk : tyk P t = some kk) (hd : kk.desc = .slice e) (hke : tyk P e = some ke)
    (hx : ev env x = some (.slice A j c')) (hA : 0 < j → A = some ⟨b, o * ke.size, none⟩) (hmo : m ≤ o) (hoc : o + j ≤ c) (hz : Nat.beq ke.zero.cells.size ke.size = true) (h1 : ke.zero.cells.toList.all (·.oneCell') = true) (hi : L[i]? = some (.row (.slice (some ⟨b, 0, none⟩) m c) e ke.size m xs)) :
    X P n w0 H0 env H L ⟨none, .call { callee := .builtin .clear, args := #[x], argTypes := #[t] }, ty, pos, after, g⟩ false (G := Unit) (fun _ => True) (fun _ => env) (fun _ => H) (fun _ => L) :=
  ⟨fun a w hf hs K Q hK => by
    obtain ⟨dd, hu, hf'⟩ := (tyk_ok hk).und
    rw [hd] at hf'
    simp only [TyD.fits] at hf'
    subst hf'
    have hz' := Nat.eq_of_beq_eq_true hz
    have hlen : (Builtin.zeroCells ke.zero.cells j).toList.length = j * ke.size := by simp [Builtin.zeroCells, hz']
    have key : ∃ w', (Builtin.clear_ #[t] ty #[.slice A j c']).run P w = .ok (.tuple #[]) w' ∧ St w0 H0 H L w' := by
      rcases Nat.eq_zero_or_pos j with h0 | h0
      · subst h0
        exact ⟨w, by cases A <;> simp [Builtin.clear_, run_underlying hu], hs⟩
      · have hA' := hA h0
        subst hA'
        obtain ⟨cur, c1, c2, c3, c4, c5, c6, c7⟩ := hs.row_get (List.mem_of_getElem? hi)
        have hfit : o * ke.size + (Builtin.zeroCells ke.zero.cells j).toList.length ≤ cur.toList.length := by
          rw [hlen, ← Nat.add_mul, Array.length_toList, c6]; exact Nat.mul_le_mul_right _ hoc
        have hone : ∀ v ∈ (Builtin.zeroCells ke.zero.cells j).toList, v.oneCell' = true := by
          intro v hv
          simp only [Builtin.zeroCells, Array.toList_map, List.mem_map] at hv
          obtain ⟨q, hq, rfl⟩ := hv
          have hq' : q < j * ke.zero.cells.size := by simpa using hq
          have hpos : 0 < ke.zero.cells.size := Nat.pos_of_ne_zero fun e => by rw [e] at hq'; simp at hq'
          have hlt := Nat.mod_lt q hpos
          rw [getElem!_pos ke.zero.cells _ hlt]
          exact List.all_eq_true.1 h1 _ (by simp)
        have hst := run_storeCells_cells (P := P) b (o * ke.size) (Builtin.zeroCells ke.zero.cells j).toList 0 w (fun q hq => by
          have : o * ke.size + 0 + q < cur.size := by
            have := Array.length_toList (xs := cur)
            omega
          simp [World.cell?, c1]
          omega) (fun q hq => by simp [World.frozen?, c1]) hone
        rw [Nat.add_zero] at hst
        have hcs : w.heap[b]? = some (.cells cur.toList.toArray e (0, 0)) := by simpa using c1
        have hnew := setCells_blk b e (Builtin.zeroCells ke.zero.cells j).toList (o * ke.size) w cur.toList hcs hfit
        obtain ⟨k1, k2, k3, k4⟩ := setCells_same b (Builtin.zeroCells ke.zero.cells j).toList (o * ke.size) w
        have hs' : St w0 H0 H (L.set i (.row (.slice (some ⟨b, 0, none⟩) m c) e ke.size m xs)) (w.setCells b (o * ke.size) (Builtin.zeroCells ke.zero.cells j).toList) := by
          refine hs.set hi rfl rfl (fun k hk => heap_setCells b _ _ w k hk) k1 k2 k3 k4 (setCells_drawn b _ _ w) ?_
          refine ⟨c3, .inr ⟨b, c, _, rfl, c2, hnew, c4, c5, by simp [putCells_length, c6], ?_⟩⟩
          rw [List.toList_toArray, putCells_head _ _ _ _ (Nat.mul_le_mul_right _ hmo), c7]
        rw [set_same hi] at hs'
        refine ⟨_, ?_, hs'⟩
        obtain ⟨j', rfl⟩ : ∃ j', j = j' + 1 := ⟨j - 1, by omega⟩
        simp [Builtin.clear_, run_underlying hu, (tyk_ok hke).zeroRun w, hst]
    obtain ⟨w', hrun, hs'⟩ := key
    have : (execOp a.eval ⟨none, .call { callee := .builtin .clear, args := #[x], argTypes := #[t] }, ty, pos, after, g⟩).run P w = .ok (.value (.tuple #[])) w' := by
      unfold execOp
      simp [resolve, invoke, builtin, hf.ev hx, hrun]
    unfold Oper.wp
    rw [this]
    exact hK () _ _ trivial (fun h => by cases h) (hf.put_none _) hs'⟩
theorem encs_drop (l : List α) (k : Nat) : (encs l).drop (k * Enc.size α) = encs (l.drop k) := by
  by_cases h : k ≤ l.length
  · have e : encs l = encs (l.take k) ++ encs (l.drop k) := by rw [← encs_append, List.take_append_drop]
    have hl : (encs (l.take k)).length = k * Enc.size α := by rw [encs_length, List.length_take, Nat.min_eq_left h]
    rw [e, ← hl, List.drop_left]
  · rw [List.drop_of_length_le (show l.length ≤ k by omega), List.drop_of_length_le]
    · rfl
    · rw [encs_length]
      exact Nat.mul_le_mul_right _ (by omega)
end
end Go.Proofs.YtepljgpikfeklaaGreatDoor
namespace Go.Proofs.YtepljgpikfeklaaGreatDoor
set_option linter.unusedVariables false
set_option linter.unusedSimpArgs false
open Go Go.RowKit
open Enc (enc)
section plainer
variable {κ : Type} {mk : κ → Value}
def entsFrom (mk : κ → Value) (j : Nat) (l : List (κ × Value)) : List MapEntry := (l.zipIdx j).map fun p => ⟨mk p.1.1, p.1.2, p.2⟩
def mObj (mk : κ → Value) (l : List (κ × Value)) : Obj := .map (entsFrom mk 0 l).toArray l.length
theorem entsFrom_get (j i : Nat) (l : List (κ × Value)) : (entsFrom mk j l)[i]? = (l[i]?).map fun p => ⟨mk p.1, p.2, j + i⟩ := by
  unfold entsFrom
  rw [List.getElem?_map, List.getElem?_zipIdx]
  cases l[i]? <;> simp
end plainer
section plain
variable {κ : Type} [DecidableEq κ]
def aFind (a : κ) : List (κ × Value) → Nat → Option (Nat × Value)
  | [], _ => none
  | (k, v) :: r, i => if a = k then some (i, v) else aFind a r (i + 1)
def aGet (a : κ) (l : List (κ × Value)) : Option Value := (aFind a l 0).map (·.2)
def aPut (a : κ) (v : Value) (l : List (κ × Value)) : List (κ × Value) :=
  match aFind a l 0 with
  | some (i, _) => l.set i (a, v)
  | none => l ++ [(a, v)]
structure KeyK (P : Program) (kt : TypeId) (kd : TypeDesc) (mk : κ → Value) : Prop where
  und : P.underlying kt = some kd
  same : ∀ a b, Instr.sameNow kd (mk a) (mk b) = some (decide (a = b))
  check : ∀ (e : Bool) (a : κ) (w : World), (Instr.checkKey e 10000 kt (mk a)).run P w = .ok () w
  bits : ∀ a, Instr.sameBits 10000 (mk a) (mk a) = true
variable {mk : κ → Value} {P : Program} {kt : TypeId} {kd : TypeDesc}
theorem aFind_none {a : κ} : ∀ {l : List (κ × Value)} {i : Nat}, aFind a l i = none ↔ ∀ p ∈ l, p.1 ≠ a
  | [], _ => by simp [aFind]
  | (k, v) :: r, i => by
    unfold aFind
    by_cases h : a = k
    · simp [h]
    · rw [if_neg h, aFind_none]; simp; exact fun _ => fun h' => h h'.symm
theorem aFind_some {a : κ} : ∀ {l : List (κ × Value)} {i j : Nat} {v : Value}, aFind a l i = some (j, v) → i ≤ j ∧ l[j - i]? = some (a, v)
  | [], _, _, _, h => by cases h
  | (k, u) :: r, i, j, v, h => by
    unfold aFind at h
    by_cases e : a = k
    · rw [if_pos e] at h
      simp at h
      obtain ⟨rfl, rfl⟩ := h
      simp [e]
    · rw [if_neg e] at h
      obtain ⟨h1, h2⟩ := aFind_some h
      refine ⟨by omega, ?_⟩
      rw [show j - i = (j - (i + 1)) + 1 by omega]
      exact h2
theorem findNow_eq (K : KeyK P kt kd mk) (a : κ) : ∀ (l : List (κ × Value)) (i j : Nat), Instr.findNow kd (mk a) (entsFrom mk j l) i = some (aFind a l i)
  | [], _, _ => rfl
  | (k, v) :: r, i, j => by
    show Instr.findNow kd (mk a) (⟨mk k, v, j⟩ :: entsFrom mk (j + 1) r) i = _
    unfold Instr.findNow aFind
    simp only [K.same]
    by_cases h : a = k
    · simp [h]
    · simp only [h, decide_false, if_false]; exact findNow_eq K a r (i + 1) (j + 1)
theorem run_findKey (K : KeyK P kt kd mk) (a : κ) (l : List (κ × Value)) (w : World) : (Instr.findKey kt (mk a) (entsFrom mk 0 l)).run P w = .ok (aFind a l 0) w := by
  unfold Instr.findKey
  rw [Sem.run_bind, run_underlying K.und w]
  simp only [Result.andThen_ok, findNow_eq K]
  rfl
theorem run_mlookup (K : KeyK P kt kd mk) {t e : TypeId} (ht : P.underlying t = some (.map kt e)) {z : Value} (a : κ) {l : List (κ × Value)} {w : World} (hz : (zeroValue e).run P w = .ok z w) {b : Nat} (hb : w.heap[b]? = some (mObj mk l)) : (Instr.lookup t (.map (some b)) (mk a) false).run P w = .ok ((aGet a l).getD z) w := by
  have hg : (getObj b).run P w = .ok (mObj mk l) w := MapKept.run_getObj_map hb
  unfold Instr.lookup
  simp only [Sem.run_bind, run_underlying ht w, Result.andThen_ok, hg, mObj, Sem.run_pure, K.check, List.toList_toArray, run_findKey K]
  unfold aGet
  cases aFind a l 0 with
  | none => simp [hz]
  | some p => obtain ⟨i, v⟩ := p; simp
theorem run_mlookupOk (K : KeyK P kt kd mk) {t e : TypeId} (ht : P.underlying t = some (.map kt e)) {z : Value} (a : κ) {l : List (κ × Value)} {w : World} (hz : (zeroValue e).run P w = .ok z w) {b : Nat} (hb : w.heap[b]? = some (mObj mk l)) : (Instr.lookup t (.map (some b)) (mk a) true).run P w = .ok (.tuple #[(aGet a l).getD z, .bool (aGet a l).isSome]) w := by
  have hg : (getObj b).run P w = .ok (mObj mk l) w := MapKept.run_getObj_map hb
  unfold Instr.lookup
  simp only [Sem.run_bind, run_underlying ht w, Result.andThen_ok, hg, mObj, Sem.run_pure, K.check, List.toList_toArray, run_findKey K]
  unfold aGet
  cases aFind a l 0 with
  | none => simp [hz]
  | some p => obtain ⟨i, v⟩ := p; simp
theorem run_mput (K : KeyK P kt kd mk) {t e : TypeId} (ht : P.underlying t = some (.map kt e)) (a : κ) (v : Value) {l : List (κ × Value)} {w : World} {b : Nat} (hb : w.heap[b]? = some (mObj mk l)) : (Instr.mapUpdate t (.map (some b)) (mk a) v).run P w = .ok () (w.putObj b (mObj mk (aPut a v l))) := by
  have hg : (getObj b).run P w = .ok (mObj mk l) w := MapKept.run_getObj_map hb
  have hsz : b < w.heap.size := (Array.getElem?_eq_some_iff.1 hb).1
  have hset : ∀ o, (setObj b o).run P w = .ok () (w.putObj b o) := fun o => MapKept.run_setObj_map o hb
  unfold Instr.mapUpdate
  simp only [Sem.run_bind, run_underlying ht w, Result.andThen_ok, hg, mObj, K.check, List.toList_toArray, run_findKey K]
  unfold aPut
  cases hf : aFind a l 0 with
  | none =>
    simp only [hset]
    congr 2
    try unfold mObj
    congr 1
    · apply Array.toList_inj.1
      apply List.ext_getElem?
      intro i
      simp only [Array.toList_push, List.toList_toArray]
      rw [List.getElem?_append, entsFrom_get, entsFrom_get, List.getElem?_append]
      have : (entsFrom mk 0 l).length = l.length := by unfold entsFrom; simp
      rw [this]
      by_cases h : i < l.length
      · simp [h]
      · by_cases h2 : i = l.length
        · subst h2; simp
        · rw [if_neg h, if_neg h]
          rw [List.getElem?_eq_none (by simp; omega), List.getElem?_eq_none (by simp; omega)]; rfl
    · simp
  | some p =>
    obtain ⟨i, u⟩ := p
    have hi := (aFind_some hf).2
    rw [Nat.sub_zero] at hi
    have hk : ((entsFrom mk 0 l).toArray[i]?.map (·.key)).getD (mk a) = mk a := by
      rw [List.getElem?_toArray, entsFrom_get, hi]; rfl
    simp only [hk, Instr.keyThatStays, K.bits, if_true, Sem.run_bind, Sem.run_pure, Result.andThen_ok, hset]
    congr 2
    try unfold mObj
    congr 1
    · apply Array.ext_getElem?
      intro j
      rw [Array.getElem?_modify, List.getElem?_toArray, List.getElem?_toArray, entsFrom_get, entsFrom_get, List.getElem?_set]
      by_cases h : i = j
      · subst h
        rw [if_pos rfl, if_pos rfl, hi, if_pos (by exact (List.getElem?_eq_some_iff.1 hi).1)]; rfl
      · rw [if_neg h, if_neg h]
    · simp
end plain
theorem keyI {P : Program} {kt : TypeId} {q : IntKind} (h : P.underlying kt = some (.int q)) : KeyK P kt (.int q) (fun a : Int => .int q a) where
  und := h
  same a b := by simp only [Instr.sameNow, if_true]; rfl
  check e a w := by
    unfold Instr.checkKey
    rw [Sem.run_bind, run_underlying h w]; rfl
  bits a := by simp [Instr.sameBits]
theorem keyS {P : Program} {kt : TypeId} (h : P.underlying kt = some .string) : KeyK P kt .string (fun a : List UInt8 => strV a) where
  und := h
  same a b := by
    simp only [Instr.sameNow]
    rw [beq_toListBytes, bytes_eq]
  check e a w := by
    unfold Instr.checkKey
    rw [Sem.run_bind, run_underlying h w]; rfl
  bits a := by simp only [Instr.sameBits]; rw [beq_toListBytes, bytes_eq]; simp
section
variable {P : Program} {n : FK} {w0 w w' : World} {H0 H H' : Hp} {Q : Exit → Act → World → Prop} {env : List (Nat × Value)} {L L' : List Loc} {κ : Type}
theorem X.makeMap {d : Nat} {t ty : TypeId} {pos : String} {after : Array Edge} {g : Option (Nat × Bool)} (mk : κ → Value) (hn : Nat.blt d n.n = true) :
    X P n w0 H0 env H L ⟨some d, .makeMap t none, ty, pos, after, g⟩ true (G := Nat) (fun _ => True) (fun b => (d, .map (some b)) :: env) (fun _ => H) (fun b => .any b (mObj mk []) :: L) :=
  ⟨fun a w hf hs K Q hK => by
    unfold Oper.wp
    have : (execOp a.eval ⟨some d, .makeMap t none, ty, pos, after, g⟩).run P w = .ok (.value (.map (some w.heap.size))) (w.alloc (mObj mk [])) := by
      unfold execOp
      simp [Instr.makeMap, newObj]
      rfl
    rw [this]
    exact hK _ _ _ trivial (fun _ => (Below.refl _ _).alloc (Nat.le_refl _) _) (hf.put hn _) (hs.alloc rfl ⟨hs.below.size, World.alloc_heap_new _ _⟩)⟩
end
section
variable {P : Program} {n : FK} {w0 w w' : World} {H0 H H' : Hp} {Q : Exit → Act → World → Prop} {env : List (Nat × Value)} {L L' : List Loc} {ops rest : List Oper} {κ : Type} [DecidableEq κ] {mk : κ → Value} {kt : TypeId} {kd : TypeDesc}
theorem V.mlookup [Tys P] {t e : TypeId} {x y : Operand} {b : Nat} {k ke : TyK} {l : List (κ × Value)} {c : Value} (a : κ) (hk : tyk P t = some k) (hd : k.desc = .map kt e) (hke : tyk P e = some ke) (K : KeyK P kt kd mk) (hx : ev env x = some (.map (some b))) (hy : ev env y = some (mk a))
    (hm : Loc.any b (mObj mk l) ∈ L) (hc : (aGet a l).getD ke.zero = c) : V P n (St w0 H0 H L) env (.lookup t x y false) c :=
  ⟨fun o a' w ho hf hs => by
    obtain ⟨d, hd1, hd2⟩ := (tyk_ok hk).und
    rw [hd] at hd2
    simp only [TyD.fits] at hd2
    subst hd2
    have := run_mlookup K hd1 a ((tyk_ok hke).zeroRun w) (hs.ok _ hm).2
    unfold execOp
    rw [ho]
    simp only [hf.ev hx, hf.ev hy, Sem.run_bind, this, hc]
    rfl⟩
theorem V.mlookupOk [Tys P] {t e : TypeId} {x y : Operand} {b : Nat} {k ke : TyK} {l : List (κ × Value)} {c : Value} {f : Bool} (a : κ) (hk : tyk P t = some k) (hd : k.desc = .map kt e) (hke : tyk P e = some ke) (K : KeyK P kt kd mk) (hx : ev env x = some (.map (some b))) (hy : ev env y = some (mk a))
    (hm : Loc.any b (mObj mk l) ∈ L) (hc : (aGet a l).getD ke.zero = c) (hf' : (aGet a l).isSome = f) : V P n (St w0 H0 H L) env (.lookup t x y true) (.tuple #[c, .bool f]) :=
  ⟨fun o a' w ho hf hs => by
    obtain ⟨d, hd1, hd2⟩ := (tyk_ok hk).und
    rw [hd] at hd2
    simp only [TyD.fits] at hd2
    subst hd2
    have := run_mlookupOk K hd1 a ((tyk_ok hke).zeroRun w) (hs.ok _ hm).2
    unfold execOp
    rw [ho]
    simp only [hf.ev hx, hf.ev hy, Sem.run_bind, this, hc, hf']
    rfl⟩
theorem X.mput [Tys P] {t e ty : TypeId} {x y z : Operand} {b : Nat} {k : TyK} {pos : String} {after : Array Edge} {g : Option (Nat × Bool)} {l : List (κ × Value)} {v : Value} (i : Nat) (a : κ) (hk : tyk P t = some k) (hd : k.desc = .map kt e) (K : KeyK P kt kd mk) (hx : ev env x = some (.map (some b))) (hy : ev env y = some (mk a)) (hz : ev env z = some v)
    (hi : L[i]? = some (.any b (mObj mk l))) {L' : List Loc} (hL : L.set i (.any b (mObj mk (aPut a v l))) = L') : X P n w0 H0 env H L ⟨none, .mapUpdate t x y z, ty, pos, after, g⟩ false (G := Unit) (fun _ => True) (fun _ => env) (fun _ => H) (fun _ => L') :=
  ⟨fun a' w hf hs K' Q hK => by
    obtain ⟨d, hd1, hd2⟩ := (tyk_ok hk).und
    rw [hd] at hd2
    simp only [TyD.fits] at hd2
    subst hd2
    have hrun := run_mput K hd1 a v (hs.ok _ (List.mem_of_getElem? hi)).2
    unfold Oper.wp
    have : (execOp a'.eval ⟨none, .mapUpdate t x y z, ty, pos, after, g⟩).run P w = .ok .skip (w.putObj b (mObj mk (aPut a v l))) := by
      unfold execOp
      simp only [hf.ev hx, hf.ev hy, hf.ev hz, Sem.run_bind, hrun]
      rfl
    rw [this]
    subst hL
    exact hK () _ _ trivial (fun h => by cases h) (hf.put_none _) (hs.putObj _ hi)⟩
end
theorem aGet_set {κ : Type} [DecidableEq κ] (a : κ) (l : List κ) : (aGet a (l.map fun x => (x, Value.bool true))).getD (.bool false) = .bool (decide (a ∈ l)) := by
  unfold aGet
  cases h : aFind a (l.map fun x => (x, Value.bool true)) 0 with
  | none =>
    rw [aFind_none] at h
    rw [decide_eq_false fun h' => h (a, .bool true) (List.mem_map.2 ⟨a, h', rfl⟩) rfl]; rfl
  | some p =>
    obtain ⟨j, v⟩ := p
    have h2 := List.mem_of_getElem? (aFind_some h).2
    obtain ⟨x, hx, he⟩ := List.mem_map.1 h2
    simp only [Prod.mk.injEq] at he
    obtain ⟨rfl, rfl⟩ := he
    rw [decide_eq_true hx]; rfl
theorem aPut_set {κ : Type} [DecidableEq κ] {a : κ} {l : List κ} (h : a ∉ l) : aPut a (.bool true) (l.map fun x => (x, Value.bool true)) = (l ++ [a]).map fun x => (x, Value.bool true) := by
  unfold aPut
  have : aFind a (l.map fun x => (x, Value.bool true)) 0 = none := aFind_none.2 fun p hp => by
    obtain ⟨x, hx, rfl⟩ := List.mem_map.1 hp
    exact fun e => h (e ▸ hx)
  rw [this]; simp
end Go.Proofs.YtepljgpikfeklaaGreatDoor
