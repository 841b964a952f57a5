/-
  The engine: slices cut and handed on, rows frozen on the way.
-/
import Derived.Test.YtogcofeencgipaaGreatDoorSEng
import Derived.Laws.OwnMore
import Derived.Laws.Append
import Derived.Laws.Small
import Derived.Laws.MakeOwn
import Derived.Laws.IdiomCopy
import Derived.Laws.StructEq
namespace Go.Proofs.YtogcofeencgipaaGreatDoor
set_option linter.unusedVariables false
set_option linter.unusedSimpArgs false
open Go Go.RowKit
open Enc (enc)

section
variable {α : Type} [Enc α] {s : Slc α} {H : Hp}
theorem Slc.Good.all (h : s.Good H) : H.cells s.b s.o (encs s.els) := fun j v hj => by
  have hlt := (List.getElem?_eq_some_iff.1 hj).1
  rw [encs_length] at hlt
  have hp := Enc.pos (α := α)
  have hk : j / Enc.size α < s.els.length := Nat.div_lt_of_lt_mul (by rw [Nat.mul_comm]; exact hlt)
  have hi : j % Enc.size α < Enc.size α := Nat.mod_lt _ hp
  have hx : s.els[j / Enc.size α]? = some s.els[j / Enc.size α] := List.getElem?_eq_getElem hk
  have hv : (enc s.els[j / Enc.size α])[j % Enc.size α]? = some ((enc s.els[j / Enc.size α])[j % Enc.size α]'(by rw [Enc.len]; exact hi)) := List.getElem?_eq_getElem _
  have e := encs_get s.els _ _ _ _ hx hv
  have ej : j / Enc.size α * Enc.size α + j % Enc.size α = j := by rw [Nat.mul_comm]; exact Nat.div_add_mod _ _
  rw [ej, hj] at e
  have := h.cells _ _ hx _ _ hv
  rw [Nat.add_assoc, ej] at this
  rw [this, ← Option.some.inj e]
/-- s[i:] -/
def Slc.drop (s : Slc α) (i : Nat) : Slc α := ⟨if s.cap = i then s.A else s.A.map (·.add (i * Enc.size α)), s.len - i, s.cap - i, s.els.drop i⟩
/-- s[:i:i] -/
def Slc.take (s : Slc α) (i : Nat) : Slc α := ⟨s.A, i, i, s.els.take i⟩
theorem Slc.Good.drop (h : s.Good H) {i : Nat} (hi : i ≤ s.len) : (s.drop i).Good H := by
  have hlen := h.len
  have hcap := h.cap
  have hbig := h.big
  have hmem : ∀ k x, (s.els.drop i)[k]? = some x → s.els[i + k]? = some x := fun k x hk => by rw [List.getElem?_drop] at hk; exact hk
  have hat : 0 < s.len - i → (s.drop i).A = some ⟨s.b, s.o + i * Enc.size α, none⟩ := fun h0 => by
    have ha := h.at_ (by omega)
    unfold Slc.drop
    rw [if_neg (by omega), ha]
    simp only [Option.map_some, Addr.add]
    by_cases hz : i * Enc.size α = 0
    · rw [if_pos hz, hz]; rfl
    · rw [if_neg hz]
  have hb : 0 < s.len - i → (s.drop i).b = s.b ∧ (s.drop i).o = s.o + i * Enc.size α := fun h0 => by
    unfold Slc.b Slc.o
    rw [hat h0]
    exact ⟨rfl, rfl⟩
  refine ⟨by simp [Slc.drop, hlen], by simp only [Slc.drop]; omega, by simp only [Slc.drop]; omega, fun h0 => ?_, fun k x hk => ?_, fun x hx => h.els x (List.mem_of_mem_drop hx)⟩
  · rw [(hb h0).1, (hb h0).2]; exact hat h0
  · have hk' := hmem k x hk
    have hlt := (List.getElem?_eq_some_iff.1 hk').1
    obtain ⟨e1, e2⟩ := hb (by omega)
    rw [e1, e2]
    have := h.cells _ _ hk'
    rw [Nat.add_mul, ← Nat.add_assoc] at this
    exact this
theorem Slc.Good.take (h : s.Good H) {i : Nat} (hi : i ≤ s.len) : (s.take i).Good H := by
  have hlen := h.len
  have hcap := h.cap
  have hbig := h.big
  refine ⟨by simp [Slc.take, hlen, hi], Nat.le_refl _, by simp only [Slc.take]; omega, fun h0 => h.at_ (by simp only [Slc.take] at h0; omega), fun k x hk => ?_, fun x hx => h.els x (List.mem_of_mem_take hx)⟩
  have hk' : s.els[k]? = some x := by
    have : (s.els.take i)[k]? = some x := hk
    rw [List.getElem?_take] at this
    split at this
    · exact this
    · cases this
  exact h.cells k x hk'
end
section
variable {P : Program} {n : FK} {S : World → Prop} {env : List (Nat × Value)}
theorem run_equalIn_sliceNil {P : Program} (w : World) (d : Nat) (t e : TypeId) (A : Option Addr) (m c : Nat) (h : P.underlying t = some (.slice e)) : (Op.equalIn (d + 1) t (.slice A m c) (.slice none 0 0)).run P w = .ok A.isNone w := by
  cases A <;> simp [Op.equalIn, run_underlying h]
theorem V.sliceNil [Tys P] {t u e : TypeId} {x y : Operand} {A : Option Addr} {m c : Nat} {k : TyK} (hk : tyk P t = some k) (hd : k.desc = .slice e) (hx : ev env x = some (.slice A m c)) (hy : ev env y = some (.slice none 0 0)) : V P n S env (.binOp .eql t x y u) (.bool A.isNone) :=
  ⟨fun o a w ho hf _ => by
    obtain ⟨d, hu, hf'⟩ := (tyk_ok hk).und
    rw [hd] at hf'
    simp only [TyD.fits] at hf'
    subst hf'
    unfold execOp; rw [ho]
    simp [hf.ev hx, hf.ev hy, binOp, eqGuard, Op.equal, Op.maxDepth, run_equalIn_sliceNil w 9999 t e A m c hu]⟩
theorem V.nilCheck {x : Operand} {a : Addr} (hx : ev env x = some (.pointer (some a))) : V P n S env (.nilCheck x) (.pointer (some a)) :=
  ⟨fun o A w ho hf _ => by unfold execOp; rw [ho]; simp [hf.ev hx]⟩
theorem V.conv [Tys P] {s t : TypeId} {x : Operand} {i : Int} {q r : IntKind} {k ks : TyK} (hks : tyk P s = some ks) (hk : tyk P t = some k) (hd : k.desc = .int r) (hx : ev env x = some (.int q i)) (hi : r.wrap i = i) : V P n S env (.convert s t x) (.int r i) :=
  ⟨fun o A w ho hf _ => by
    obtain ⟨d, hu, hf'⟩ := (tyk_ok hk).und
    rw [hd] at hf'
    simp only [TyD.fits] at hf'
    subst hf'
    obtain ⟨d2, hu2, _⟩ := (tyk_ok hks).und
    unfold execOp; rw [ho]
    simp [hf.ev hx, convert, run_underlying hu, run_underlying hu2, Conv.intToInt, hi]⟩
theorem V.sliceFrom [Tys P] {α : Type} [Enc α] {t e : TypeId} {x y : Operand} {s : Slc α} {i : Int} {k ke : TyK} {q : IntKind} (hk : tyk P t = some k) (hd : k.desc = .slice e) (hke : tyk P e = some ke) (hsz : ke.size = Enc.size α) (hx : ev env x = some s.v) (hy : ev env y = some (.int q i)) (hi : 0 ≤ i ∧ i ≤ s.len) (hc : s.len ≤ s.cap) :
    V P n S env (.slice t x (some y) none none) (s.drop i.toNat).v :=
  ⟨fun o A w ho hf _ => by
    obtain ⟨d, hu, hf'⟩ := (tyk_ok hk).und
    rw [hd] at hf'
    simp only [TyD.fits] at hf'
    subst hf'
    have h1 := run_bound (P := P) (w := w) (k := q) (i := i) (j := i.toNat) (y := s.len) (c := .sliceB) (by omega) (by omega)
    unfold execOp; rw [ho]
    simp [hf.ev hx, hf.ev hy, Instr.sliceAt, Instr.slice, Instr.sliceBounds, run_underlying hu, h1, (tyk_ok hke).sizeOf w, hsz, Slc.drop]⟩
theorem V.sliceCap [Tys P] {α : Type} [Enc α] {t e : TypeId} {x y z : Operand} {s : Slc α} {i : Int} {k ke : TyK} {q r : IntKind} (hk : tyk P t = some k) (hd : k.desc = .slice e) (hke : tyk P e = some ke) (hx : ev env x = some s.v) (hy : ev env y = some (.int q i)) (hz : ev env z = some (.int r i)) (hi : 0 ≤ i ∧ i ≤ s.len) (hc : s.len ≤ s.cap) :
    V P n S env (.slice t x none (some y) (some z)) (s.take i.toNat).v :=
  ⟨fun o A w ho hf _ => by
    obtain ⟨d, hu, hf'⟩ := (tyk_ok hk).und
    rw [hd] at hf'
    simp only [TyD.fits] at hf'
    subst hf'
    have h1 := run_bound (P := P) (w := w) (k := r) (i := i) (j := i.toNat) (y := s.cap) (c := .slice3Acap) (by omega) (by omega)
    have h2 := run_bound (P := P) (w := w) (k := q) (i := i) (j := i.toNat) (y := i.toNat) (c := .slice3B) (by omega) (by omega)
    have h3 : (if i.toNat = 0 then s.A else s.A.map (·.add 0)) = s.A := by
      split
      · rfl
      · cases s.A <;> simp [Addr.add]
    unfold execOp; rw [ho]
    simp [hf.ev hx, hf.ev hy, hf.ev hz, Instr.sliceAt, Instr.slice, Instr.sliceBounds, run_underlying hu, h1, h2, (tyk_ok hke).sizeOf w, Slc.take]
    cases s.A <;> simp [Addr.add]⟩
end
section
variable {P : Program} {n : FK} {w0 w w' : World} {H0 H H' : Hp} {Q : Exit → Act → World → Prop} {env : List (Nat × Value)} {L L' : List Loc} {ops rest : List Oper} {α : Type} [Enc α]
theorem St.perm (hs : St w0 H0 H L w) (hp : L.Perm L') : St w0 H0 H L' w :=
  ⟨hs.below, hs.sat, hs.le, hs.new, fun e he => hs.ok e (hp.mem_iff.2 he), fun e he => hs.out e (hp.mem_iff.2 he), hs.apart.perm hp (fun h b hb hb' => h b hb' hb)⟩
theorem T.perm {c : Code} (L' : List Loc) (hp : L.Perm L') (h : T P n w0 H0 c Q env H L') : T P n w0 H0 c Q env H L := ⟨fun a w hf hs => h.out a w hf (hs.perm hp)⟩
theorem TL.perm (L' : List Loc) (hp : L.Perm L') (h : TL P n w0 H0 ops Q rest env H L') : TL P n w0 H0 ops Q rest env H L := ⟨fun a w hf hs => h.out a w hf (hs.perm hp)⟩
theorem T.freezeRow {c : Code} {v : Value} {e : TypeId} {size m : Nat} {els : List α} (hsz : size = Enc.size α) (hm : els.length = m) (hg : ∀ x ∈ els, Enc.good H x) (h : ∀ (H' : Hp) (s : Slc α), s.v = v → s.els = els → s.Good H' → H.le H' → T P n w0 H0 c Q env H' L) :
    T P n w0 H0 c Q env H (.row v e size m (encs els) :: L) :=
  ⟨fun a w hf hs => by
    obtain ⟨H', s, h1, h2, h3, h4, h5⟩ := hs.freezeRow hsz hm hg
    exact (h H' s h1 h2 h3 h4).out a w hf h5⟩
theorem TL.freezeRow {v : Value} {e : TypeId} {size m : Nat} {els : List α} (hsz : size = Enc.size α) (hm : els.length = m) (hg : ∀ x ∈ els, Enc.good H x) (h : ∀ (H' : Hp) (s : Slc α), s.v = v → s.els = els → s.Good H' → H.le H' → TL P n w0 H0 ops Q rest env H' L) :
    TL P n w0 H0 ops Q rest env H (.row v e size m (encs els) :: L) :=
  ⟨fun a w hf hs => by
    obtain ⟨H', s, h1, h2, h3, h4, h5⟩ := hs.freezeRow hsz hm hg
    exact (h H' s h1 h2 h3 h4).out a w hf h5⟩
theorem run_append_none {P : Program} {w : World} (base : Nat) (t ty e : TypeId) (i : TypeInfo) (size c : Nat) (ht : P.underlying t = some (.slice e)) (hi : P.info? e = some i)
    (v : Value) (n : Nat) (xs : List Value) (hown : w.ownsRow base e size v n xs) : (Builtin.append_ #[t, t] ty #[v, .slice none 0 c]).run P w = .ok v w := by
  rcases hown.2 with ⟨rfl, rfl⟩ | ⟨g, cap, cur, rfl, _, _, hnc, _⟩
  · simp [Builtin.append_, run_underlying ht, sizeOf, typeInfo, hi, Builtin.lenOf, Builtin.firstCells]
  · simp [Builtin.append_, run_underlying ht, sizeOf, typeInfo, hi, Builtin.lenOf, Builtin.firstCells, hnc, storeCells]
/-- 'append(row, s...)', s a slice that nobody writes. -/
theorem X.appendSlc [Tys P] (i : Nat) (s : Slc α) {d : Nat} {t e ty : TypeId} {x y : Operand} {pos : String} {after : Array Edge} {g : Option (Nat × Bool)} {k ke : TyK} {v : Value} {m : Nat} {xs : List Value} (hn : Nat.blt d n.n = true) (hk : tyk P t = some k) (hd : k.desc = .slice e) (hke : tyk P e = some ke) (h0 : Nat.beq ke.size 0 = false) (hz : Nat.beq ke.zero.cells.size ke.size = true)
    (hx : ev env x = some v) (hi : L[i]? = some (.row v e ke.size m xs)) (hy : ev env y = some s.v) (hsz : ke.size = Enc.size α) (hg : s.Good H) (hb : (m + s.len) * ke.bytes ≤ 140737488355328) (h63 : m + s.len ≤ 9223372036854775807) :
    X P n w0 H0 env H L ⟨some d, .call { callee := .builtin .append, args := #[x, y], argTypes := #[t, t] }, ty, pos, after, g⟩ false (G := Value) (fun v' => v' = .slice none 0 0 ↔ v = .slice none 0 0 ∧ s.len = 0) (fun v' => (d, v') :: env) (fun _ => H) (fun v' => L.set i (.row v' e ke.size (m + s.len) (xs ++ encs s.els))) :=
  ⟨fun a w hf hs K Q hK => by
    have hl : (encs s.els).length = s.len * ke.size := by rw [encs_length, hg.len, hsz]
    cases hA : s.A with
    | some ad =>
      obtain ⟨v', w', hrun, hst, hnil⟩ := run_append_x hs hk hd hke h0 hz hi (ad := ad) (c := s.cap) hl (fun q u hu => by
        have hq := (List.getElem?_eq_some_iff.1 hu).1
        have hpos : 0 < s.len := Nat.pos_of_ne_zero fun e => by rw [hl, e, Nat.zero_mul] at hq; omega
        have := hg.at_ hpos
        rw [hA] at this
        rw [Option.some.inj this, Addr.add_mid]
        exact hs.sat.cell (hg.all q u hu)) (fun u hu => encs_one _ u hu) hb h63 ty
      unfold Oper.wp
      rw [run_appendOp (v := v) (u := .slice (some ad) s.len s.cap) rfl (hf.ev hx) (by rw [← hA]; exact hf.ev hy) hrun]
      exact hK v' _ _ hnil (fun h => by cases h) (hf.put hn _) hst
    | none =>
      have hl0 : s.len = 0 := by
        rcases Nat.eq_zero_or_pos s.len with h | h
        · exact h
        · have := hg.at_ h; rw [hA] at this; cases this
      have hels : s.els = [] := List.eq_nil_of_length_eq_zero (by rw [hg.len]; exact hl0)
      obtain ⟨dd, hu, hf'⟩ := (tyk_ok hk).und
      rw [hd] at hf'
      simp only [TyD.fits] at hf'
      subst hf'
      obtain ⟨inf, hinf, _, _, _⟩ := (tyk_ok hke).get
      have hrun := run_append_none w0.heap.size t ty e inf ke.size s.cap hu hinf v m xs (hs.ok _ (List.mem_of_getElem? hi))
      unfold Oper.wp
      rw [run_appendOp (v := v) (u := .slice none 0 s.cap) rfl (hf.ev hx) (by rw [← hA, ← hl0]; exact hf.ev hy) hrun]
      refine hK v _ _ ⟨fun h => ⟨h, hl0⟩, fun h => h.1⟩ (fun h => by cases h) (hf.put hn _) ?_
      have he : L.set i (.row v e ke.size (m + s.len) (xs ++ encs s.els)) = L := by
        rw [hl0, hels, encs_nil, List.append_nil, Nat.add_zero]
        apply List.ext_getElem?
        intro j
        rw [List.getElem?_set]
        by_cases e : i = j
        · subst e
          rw [if_pos rfl, hi, if_pos (List.getElem?_eq_some_iff.1 hi).1]
        · rw [if_neg e]
      rw [he]; exact hs⟩
end
end Go.Proofs.YtogcofeencgipaaGreatDoor
namespace Go.Proofs.YtogcofeencgipaaGreatDoor
set_option linter.unusedVariables false
set_option linter.unusedSimpArgs false
open Go Go.RowKit
open Enc (enc)
section
variable {P : Program} {n : FK} {w0 w w' : World} {H0 H H' : Hp} {Q : Exit → Act → World → Prop} {env : List (Nat × Value)} {L L' : List Loc} {ops rest : List Oper} {α : Type} [Enc α]
theorem St.rowShape {v : Value} {e : TypeId} {size m : Nat} {xs : List Value} (hs : St w0 H0 H L w) (hm : Loc.row v e size m xs ∈ L) : ∃ (o : Option Nat) (c : Nat), v = .slice (o.map fun g => ⟨g, 0, none⟩) m c ∧ (o = none → m = 0 ∧ c = 0) := by
  rcases (show w.ownsRow w0.heap.size e size v m xs from hs.ok _ hm).2 with ⟨rfl, rfl⟩ | ⟨g, cap, cur, rfl, _⟩
  · exact ⟨none, 0, rfl, fun _ => ⟨rfl, rfl⟩⟩
  · exact ⟨some g, cap, rfl, fun h => by cases h⟩
end
end Go.Proofs.YtogcofeencgipaaGreatDoor
namespace Go.Proofs.YtogcofeencgipaaGreatDoor
set_option linter.unusedVariables false
set_option linter.unusedSimpArgs false
open Go Go.RowKit
open Enc (enc)
section
variable {P : Program} {n : FK} {w0 w w' : World} {H0 H H' : Hp} {Q : Exit → Act → World → Prop} {env : List (Nat × Value)} {L L' : List Loc} {ops rest : List Oper} {α : Type} [Enc α]
theorem X.callFE {G : Type} {φ : G → Prop} {v : G → Value} {H' : G → Hp} {d : Nat} {f : FuncId} {args : Array Operand} {tys : Array TypeId} {ty : TypeId} {pos : String} {after : Array Edge} {g : Option (Nat × Bool)} {vs : List Value} (us : List Value)
    (hcall : ∀ (args : Array Value) (w : World), (callFunc f args).run P w = .ok (.enter f args) w) (hn : Nat.blt d n.n = true)
    (hargs : evs env args.toList = some vs) (he : vs = us) (hc : ∀ w, St w0 H0 H L w → Calls P f us.toArray w (RetF w H φ v H')) :
    X P n w0 H0 env H L ⟨some d, .call { callee := .value (.func f), args := args, argTypes := tys }, ty, pos, after, g⟩ true (fun g => φ g ∧ H.le (H' g)) (fun g => (d, v g) :: env) H' (fun _ => L) := by
  subst he
  exact X.callF0 hcall hn hargs hc
/-- A store, with the cells that it leaves written out. -/
theorem X.storeTo [Tys P] {t ty : TypeId} {p x : Operand} {pos : String} {after : Array Edge} {g : Option (Nat × Bool)} {b o : Nat} {T : TypeId} {cs vs : List Value} {v : Value} {k : TyK} (i : Nat) (cs' : List Value) (hk : tyk P t = some k)
    (hp : ev env p = some (.pointer (some ⟨b, o, none⟩))) (hx : ev env x = some v) (hi : L[i]? = some (.blk b T cs)) (hv : v.cells = vs.toArray) (hl : vs.length = k.size) (h1 : vs.all (·.oneCell') = true) (ho : Nat.ble (o + vs.length) cs.length = true)
    (hc : putCells cs o vs = cs') {L' : List Loc} (hL' : L.set i (.blk b T cs') = L') : X P n w0 H0 env H L ⟨none, .store t p x, ty, pos, after, g⟩ false (G := Unit) (fun _ => True) (fun _ => env) (fun _ => H) (fun _ => L') := by
  subst hc
  exact X.store i hk hp hx hi hv hl h1 ho hL'
theorem X.callRE {d : Nat} {f : FuncId} {args : Array Operand} {tys : Array TypeId} {ty : TypeId} {pos : String} {after : Array Edge} {g : Option (Nat × Bool)} {vs : List Value} {v : Value} (us : List Value)
    (hcall : ∀ (args : Array Value) (w : World), (callFunc f args).run P w = .ok (.enter f args) w) (hn : Nat.blt d n.n = true)
    (hargs : evs env args.toList = some vs) (he : vs = us) (hc : ∀ w, St w0 H0 H L w → Calls P f us.toArray w (Ret w v)) :
    X P n w0 H0 env H L ⟨some d, .call { callee := .value (.func f), args := args, argTypes := tys }, ty, pos, after, g⟩ true (G := Unit) (fun _ => True) (fun _ => (d, v) :: env) (fun _ => H) (fun _ => L) := by
  subst he
  exact X.callR0 hcall hn hargs hc
end
end Go.Proofs.YtogcofeencgipaaGreatDoor
namespace Go.Proofs.YtogcofeencgipaaGreatDoor
set_option linter.unusedVariables false
set_option linter.unusedSimpArgs false
open Go Go.RowKit
open Enc (enc)
end Go.Proofs.YtogcofeencgipaaGreatDoor
namespace Go.Proofs.YtogcofeencgipaaGreatDoor
set_option linter.unusedVariables false
set_option linter.unusedSimpArgs false
open Go Go.RowKit
open Enc (enc)
set_option linter.unusedSectionVars false
section
variable {P : Program} {n : FK} {S : World → Prop} {env : List (Nat × Value)}
theorem V.lenE [Tys P] {t e : TypeId} {tys : Array TypeId} {x : Operand} {A : Option Addr} {m c j : Nat} {k : TyK} (ht : tys[0]? = some t) (hk : tyk P t = some k) (hd : k.desc = .slice e) (hx : ev env x = some (.slice A m c)) (hm : m = j) : V P n S env (.call { callee := .builtin .len, args := #[x], argTypes := tys }) (intV j) := by
  subst hm
  exact V.len ht hk hd hx
theorem V.eqlE {k : IntKind} {t u : TypeId} {x y : Operand} {i j : Int} (hij : i = j) (hx : ev env x = some (.int k i)) (hy : ev env y = some (.int k j)) : V P n S env (.binOp .eql t x y u) (.bool true) := by
  have h := V.eql (P := P) (n := n) (S := S) (t := t) (u := u) hx hy
  rwa [decide_eq_true hij] at h
theorem V.eqlT {k : IntKind} {t u : TypeId} {x y : Operand} {i : Int} (hx : ev env x = some (.int k i)) (hy : ev env y = some (.int k i)) : V P n S env (.binOp .eql t x y u) (.bool true) := V.eqlE rfl hx hy
theorem V.beqlT {t u : TypeId} {x y : Operand} {i : Bool} (hk : P.underlying t = some .bool) (hx : ev env x = some (.bool i)) (hy : ev env y = some (.bool i)) : V P n S env (.binOp .eql t x y u) (.bool true) := by
  have h := V.beql (P := P) (n := n) (S := S) (t := t) (u := u) hk hx hy
  rwa [beq_self_eq_true] at h
theorem V.addE {t u : TypeId} {x y : Operand} {i j K : Int} (hK : i + j = K) (hr : -9223372036854775808 ≤ K ∧ K ≤ 9223372036854775807) (hx : ev env x = some (intV i)) (hy : ev env y = some (intV j)) : V P n S env (.binOp .add t x y u) (intV K) := by
  subst hK
  exact V.add hx hy hr
end
section
variable {P : Program} {n : FK} {w0 : World} {H0 H HS : Hp} {Q : Exit → Act → World → Prop} {env : List (Nat × Value)} {L LS : List Loc} {ops rest : List Oper} {K : KZ} {k : Nat} {ex : List Nat} {fuel : Nat} {ok : Bool}
theorem TL.callE {d : Nat} {f : FuncId} {args : Array Operand} {tys : Array TypeId} {ty : TypeId} {pos : String} {after : Array Edge} {g : Option (Nat × Bool)} {vs : List Value} {v : Value} (us : List Value)
    (hcall : ∀ (args : Array Value) (w : World), (callFunc f args).run P w = .ok (.enter f args) w) (hn : Nat.blt d n.n = true)
    (hw : want ops env ⟨some d, .call { callee := .value (.func f), args := args, argTypes := tys }, ty, pos, after, g⟩ = some true) (hargs : evs env args.toList = some vs) (he : vs = us)
    (hc : ∀ w, St w0 H0 H L w → Calls P f us.toArray w (Ret w v)) (h : TL P n w0 H0 ops Q rest ((d, v) :: env) H L) :
    TL P n w0 H0 ops Q (⟨some d, .call { callee := .value (.func f), args := args, argTypes := tys }, ty, pos, after, g⟩ :: rest) env H L := by
  subst he
  exact TL.call0 hcall hn hw hargs hc h
theorem GT.callE {f : FuncId} (us : List Value) (hcall : ∀ (args : Array Value) (w : World), (callFunc f args).run P w = .ok (.enter f args) w) {d : Nat} {args : Array Operand} {tys : Array TypeId} {ty : TypeId} {pos : String} {after : Array Edge} {g : Option (Nat × Bool)} {vs : List Value} {v : Value}
    (hi : ops[k]? = some ⟨some d, .call { callee := .value (.func f), args := args, argTypes := tys }, ty, pos, after, g⟩) (hm : mqAt ops k = true) (hn : Nat.blt d n.n = true)
    (hw : want ops env ⟨some d, .call { callee := .value (.func f), args := args, argTypes := tys }, ty, pos, after, g⟩ = some true) (hargs : evs env args.toList = some vs) (he : vs = us)
    (hcc : ∀ w, St w0 H0 HS LS w → Calls P f us.toArray w (Ret w v)) (hc : chk ops k ex = true)
    (h : GT P n w0 H0 ops K HS LS true fuel (k + 1) ex ((d, v) :: env) H L) : GT P n w0 H0 ops K HS LS true (fuel + 1) k ex env H L := by
  subst he
  exact GT.call0 hcall hi hm hn hw hargs hcc hc h
end
section
variable {α : Type} [Enc α] {H : Hp}
/-- 's[:i]': the first i elements, and the room behind them. -/
def Slc.to (s : Slc α) (i : Nat) : Slc α := ⟨s.A, i, s.cap, s.els.take i⟩
theorem Slc.Good.to {s : Slc α} (h : s.Good H) {i : Nat} (hi : i ≤ s.len) : (s.to i).Good H := by
  have hlen := h.len
  have hcap := h.cap
  have hbig := h.big
  refine ⟨by simp [Slc.to, hlen, hi], by simp only [Slc.to]; omega, hbig, fun h0 => h.at_ (by simp only [Slc.to] at h0; omega), fun k x hk => ?_, fun x hx => h.els x (List.mem_of_mem_take hx)⟩
  have hk' : s.els[k]? = some x := by
    have : (s.els.take i)[k]? = some x := hk
    rw [List.getElem?_take] at this
    split at this
    · exact this
    · cases this
  exact h.cells k x hk'
variable {P : Program} {n : FK} {S : World → Prop} {env : List (Nat × Value)}
theorem V.sliceTo [Tys P] {t e : TypeId} {x y : Operand} {s : Slc α} {i : Int} {k ke : TyK} {q : IntKind} (hk : tyk P t = some k) (hd : k.desc = .slice e) (hke : tyk P e = some ke) (hx : ev env x = some s.v) (hy : ev env y = some (.int q i)) (hi : 0 ≤ i ∧ i ≤ s.len) (hc : s.len ≤ s.cap) :
    V P n S env (.slice t x none (some y) none) (s.to i.toNat).v :=
  ⟨fun o A w ho hf _ => by
    obtain ⟨d, hu, hf'⟩ := (tyk_ok hk).und
    rw [hd] at hf'
    simp only [TyD.fits] at hf'
    subst hf'
    have h1 := run_bound (P := P) (w := w) (k := q) (i := i) (j := i.toNat) (y := s.cap) (c := .sliceAcap) (by omega) (by omega)
    unfold execOp; rw [ho]
    simp [hf.ev hx, hf.ev hy, Instr.sliceAt, Instr.slice, Instr.sliceBounds, run_underlying hu, h1, (tyk_ok hke).sizeOf w, Slc.to]
    cases s.A <;> simp [Addr.add]⟩
end
end Go.Proofs.YtogcofeencgipaaGreatDoor
namespace Go.Proofs.YtogcofeencgipaaGreatDoor
set_option linter.unusedVariables false
set_option linter.unusedSimpArgs false
open Go Go.RowKit
open Enc (enc)
section
variable {P : Program} {n : FK} {w0 : World} {H0 HS H : Hp} {K : KZ} {Q : Exit → Act → World → Prop} {env : List (Nat × Value)} {LS L : List Loc} {ops : List Oper} {ok : Bool} {fuel k : Nat} {ex : List Nat}
/-- What is read is among LS alone; the rest may be written. -/
theorem T.regionDS {id : Nat} (LS : List Loc) (hm : P.follows .mixedOrders = true) (hnd : ops.all nd = true) (hL : List.Sublist LS L) (h : GT P n w0 H0 ops (KZ.of Q) H LS true ops.length 0 [] env H L) : T P n w0 H0 (.region id ops.toArray true) Q env H L :=
  ⟨fun a w hf hs => by
    have hd : St w0 H0 H L { w with drawn := w.drawn + 1 } := hs.drew
    have h1 := (h.out (by rw [← marks_none]; exact closed_none _ _) a _ hf hd (fun _ => hd.sub hL)).any
    rw [← marks_none] at h1
    refine wpIn_mono (wpIn_region_any (Q := Norm (KZ.of Q)) hm (any_bridge (by simpa using hnd) (by simpa using h1))) fun e a' w' hh => hh.of⟩
theorem GS.effS {j : Nat} {o : Oper} {gr : Bool} {G' : Type} {φ : G' → Prop} {E : G' → List (Nat × Value)} {HH : G' → Hp} {LL : G' → List Loc} (hi : ops[j]? = some o) (hw : want ops env o = some true) (hx : X P n w0 H0 env H L o gr φ E HH LL) (hH : ∀ g, HH g = HS) (hL : ∀ g, List.Sublist LS (LL g))
    (h : ∀ g, φ g → GT P n w0 H0 ops K HS LS true fuel k (j :: ex) (E g) (HH g) (LL g)) : GS P n w0 H0 ops K HS LS ok fuel k ex env H L j :=
  ⟨fun hcl a w hf hs hk => by
    unfold wpOp
    have hi' : ops.toArray[j]? = some o := by simpa using hi
    simp only [hi']
    rw [want_spec hf hw, if_pos rfl]
    refine .inl (hx.out a w hf hs _ _ fun g a' w' hg hb hf' hs' => ?_)
    have hk' : St w0 H0 HS LS w' := by
      have h1 := hs'.sub (hL g)
      rw [hH g] at h1
      exact h1
    exact ⟨fun i _ _ _ _ => hk', (h g hg).out hcl a' w' hf' hs' fun _ => hk'⟩⟩
end
end Go.Proofs.YtogcofeencgipaaGreatDoor
namespace Go.Proofs.YtogcofeencgipaaGreatDoor
set_option linter.unusedVariables false
set_option linter.unusedSimpArgs false
open Go Go.RowKit
open Enc (enc)
set_option linter.unusedSectionVars false
section
variable {α : Type} [Enc α]
theorem made_encs {z : Value} {z0 : α} (h : z.cells.toList = enc z0) (m : Nat) : (madeCells z.cells (m * Enc.size α)).toList = encs (List.replicate m z0) := by
  have hz : z.cells = (enc z0).toArray := by rw [← h]
  have hp := Enc.pos (α := α)
  rw [hz]
  apply List.ext_getElem?
  intro q
  by_cases hq : q < m * Enc.size α
  · have hk : q / Enc.size α < m := Nat.div_lt_of_lt_mul (by rw [Nat.mul_comm]; exact hq)
    have hi : q % Enc.size α < Enc.size α := Nat.mod_lt _ hp
    have ej : q / Enc.size α * Enc.size α + q % Enc.size α = q := by rw [Nat.mul_comm]; exact Nat.div_add_mod _ _
    have hv : (enc z0)[q % Enc.size α]? = some ((enc z0)[q % Enc.size α]'(by rw [Enc.len]; exact hi)) := List.getElem?_eq_getElem _
    have e := encs_get (List.replicate m z0) _ _ z0 _ (by rw [List.getElem?_replicate, if_pos hk]) hv
    rw [ej] at e
    rw [e]
    have hsz : (enc z0).length = Enc.size α := Enc.len z0
    simp [madeCells, hq, hsz, List.getElem!_eq_getElem?_getD, hv]
  · have h1 : (madeCells (enc z0).toArray (m * Enc.size α)).toList.length ≤ q := by simp [madeCells]; omega
    have h2 : (encs (List.replicate m z0)).length ≤ q := by rw [encs_length, List.length_replicate]; omega
    rw [List.getElem?_eq_none h1, List.getElem?_eq_none h2]
theorem encs_take (l : List α) (k : Nat) : (encs l).take (k * Enc.size α) = encs (l.take k) := by
  by_cases h : k ≤ l.length
  · have e : encs l = encs (l.take k) ++ encs (l.drop k) := by rw [← encs_append, List.take_append_drop]
    have hl : (encs (l.take k)).length = k * Enc.size α := by rw [encs_length, List.length_take, Nat.min_eq_left h]
    rw [e, ← hl, List.take_left]
  · rw [List.take_of_length_le (show l.length ≤ k by omega), List.take_of_length_le]
    rw [encs_length]
    exact Nat.mul_le_mul_right _ (by omega)
end
section
variable {P : Program} {n : FK} {w0 : World} {H0 H : Hp} {Q : Exit → Act → World → Prop} {env : List (Nat × Value)} {L : List Loc} {ops rest : List Oper} {α : Type} [Enc α]
theorem St.rowStores {w : World} (hs : St w0 H0 H L w) {i b m c size o : Nat} {e : TypeId} {xs vs : List Value} (hi : L[i]? = some (.row (.slice (some ⟨b, 0, none⟩) m c) e size m xs)) (ho : o + vs.length ≤ m * size) (h1 : ∀ v ∈ vs, v.oneCell' = true) : (storeCells ⟨b, o, none⟩ vs 0).run P w = .ok () (w.setCells b o vs) := by
  obtain ⟨cur, h1', h2, h3, h4, h5, h6, h7⟩ := hs.row_get (List.mem_of_getElem? hi)
  have hmc : m * size ≤ c * size := Nat.mul_le_mul_right _ h4
  have hst := run_storeCells_cells (P := P) b o vs 0 w (fun j hj => by
    have : o + 0 + j < cur.size := by omega
    simp [World.cell?, h1', this]
    omega) (fun j hj => by simp [World.frozen?, h1']) h1
  simpa using hst
/-- A row's end is cut off. -/
theorem St.cutRow {w : World} (hs : St w0 H0 H L w) {i b m c size k : Nat} {e : TypeId} {xs : List Value} (hi : L[i]? = some (.row (.slice (some ⟨b, 0, none⟩) m c) e size m xs)) (hk : k ≤ m) : St w0 H0 H (L.set i (.row (.slice (some ⟨b, 0, none⟩) k c) e size k (xs.take (k * size)))) w := by
  obtain ⟨cur, h1, h2, h3, h4, h5, h6, h7⟩ := hs.row_get (List.mem_of_getElem? hi)
  have hkm : k * size ≤ m * size := Nat.mul_le_mul_right _ hk
  refine hs.set (w' := w) hi rfl rfl (fun _ _ => rfl) rfl rfl rfl rfl ?_
  refine ⟨by rw [List.length_take, h3]; exact Nat.min_eq_left hkm, .inr ⟨b, c, cur, rfl, h2, h1, Nat.le_trans hk h4, h5, h6, ?_⟩⟩
  rw [← h7, List.take_take, Nat.min_eq_left hkm]
end
section
variable {P : Program} {n : FK} {w0 : World} {H0 H : Hp} {Q : Exit → Act → World → Prop} {env : List (Nat × Value)} {L : List Loc} {ops rest : List Oper} {α : Type} [Enc α]
theorem perm_of {α : Type} : ∀ {l : List α} {i : Nat} {x : α}, l[i]? = some x → l.Perm (x :: l.eraseIdx i)
  | [], i, x, h => by simp at h
  | a :: l, 0, x, h => by
    simp at h; subst h; exact List.Perm.refl _
  | a :: l, i + 1, x, h => by
    have h' : l[i]? = some x := by simpa using h
    exact ((perm_of h').cons a).trans (List.Perm.swap x a _)
/-- A block, or a row, of the call's own, that is not written any more. -/
theorem TL.frzRow (i : Nat) {v : Value} {e : TypeId} {size m : Nat} {els : List α} (hi : L[i]? = some (.row v e size m (encs els))) (hsz : size = Enc.size α) (hm : els.length = m) (hg : ∀ x ∈ els, Enc.good H x) (h : ∀ (H' : Hp) (s : Slc α), s.v = v → s.els = els → s.Good H' → H.le H' → TL P n w0 H0 ops Q rest env H' (L.eraseIdx i)) : TL P n w0 H0 ops Q rest env H L :=
  TL.perm _ (perm_of hi) (TL.freezeRow hsz hm hg h)
theorem T.frzRow {c : Code} (i : Nat) {v : Value} {e : TypeId} {size m : Nat} {els : List α} (hi : L[i]? = some (.row v e size m (encs els))) (hsz : size = Enc.size α) (hm : els.length = m) (hg : ∀ x ∈ els, Enc.good H x) (h : ∀ (H' : Hp) (s : Slc α), s.v = v → s.els = els → s.Good H' → H.le H' → T P n w0 H0 c Q env H' (L.eraseIdx i)) : T P n w0 H0 c Q env H L :=
  T.perm _ (perm_of hi) (T.freezeRow hsz hm hg h)
theorem St.frzBlk {w : World} {b m : Nat} {e : TypeId} {els : List α} (hs : St w0 H0 H (.blk b e (encs els) :: L) w) (hm : els.length = m) (hb : m ≤ maxLen) (hg : ∀ x ∈ els, Enc.good H x) : ∃ H' : Hp, (⟨some ⟨b, 0, none⟩, m, m, els⟩ : Slc α).Good H' ∧ H.le H' ∧ St w0 H0 H' L w := by
  have hl : (encs els).length = m * Enc.size α := by rw [encs_length, hm]
  have h1 := hs.blkRow (i := 0) (m := m) (size := Enc.size α) rfl hl hb
  obtain ⟨H', s, e1, e2, e3, e4, e5⟩ := St.freezeRow (α := α) h1 rfl hm hg
  obtain ⟨A, l, c, els'⟩ := s
  simp only [Slc.v, Value.slice.injEq] at e1
  simp only at e2
  obtain ⟨rfl, rfl, rfl⟩ := e1
  subst e2
  exact ⟨H', e3, e4, e5⟩
theorem TL.frzBlk (i : Nat) {b m : Nat} {e : TypeId} {cs : List Value} {els : List α} (hi : L[i]? = some (.blk b e cs)) (hcs : cs = encs els) (hm : els.length = m) (hb : m ≤ maxLen) (hg : ∀ x ∈ els, Enc.good H x) (h : ∀ (H' : Hp), (⟨some ⟨b, 0, none⟩, m, m, els⟩ : Slc α).Good H' → H.le H' → TL P n w0 H0 ops Q rest env H' (L.eraseIdx i)) : TL P n w0 H0 ops Q rest env H L := by
  subst hcs
  refine TL.perm _ (perm_of hi) ⟨fun a w hf hs => ?_⟩
  obtain ⟨H', e3, e4, e5⟩ := hs.frzBlk hm hb hg
  exact (h H' e3 e4).out a w hf e5
end
end Go.Proofs.YtogcofeencgipaaGreatDoor
namespace Go.Proofs.YtogcofeencgipaaGreatDoor
set_option linter.unusedVariables false
set_option linter.unusedSimpArgs false
open Go Go.RowKit
open Enc (enc)
set_option linter.unusedSectionVars false
end Go.Proofs.YtogcofeencgipaaGreatDoor
namespace Go.Proofs.YtogcofeencgipaaGreatDoor
set_option linter.unusedVariables false
set_option linter.unusedSimpArgs false
open Go Go.RowKit
open Enc (enc)

end Go.Proofs.YtogcofeencgipaaGreatDoor
