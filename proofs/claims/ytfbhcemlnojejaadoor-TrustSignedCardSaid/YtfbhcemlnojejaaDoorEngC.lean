/-
  The engine: slices cut and handed on, rows frozen on the way.
-/
import Derived.Test.YtfbhcemlnojejaaDoorEngF
import Derived.Laws.OwnMore
import Derived.Laws.Append
namespace Go.Proofs.YtfbhcemlnojejaaDoor
set_option linter.unusedVariables false
set_option linter.unusedSimpArgs false
open Go Go.RowKit
open Enc (enc)

section
variable {α : Type} [Enc α] {s : Slc α} {H : Hp}
theorem Slc.Good.all (h : s.Good H) : H.cells s.b s.o (encs s.els) := fun j v hj => by
  have hlt := (List.getElem?_eq_some_iff.1 hj).1
  rw [encs_length] at hlt
  have hp := Enc.pos (α := α)
  have hk : j / Enc.size α < s.els.length := Nat.div_lt_of_lt_mul (by rw [Nat.mul_comm]; exact hlt)
  have hi : j % Enc.size α < Enc.size α := Nat.mod_lt _ hp
  have hx : s.els[j / Enc.size α]? = some s.els[j / Enc.size α] := List.getElem?_eq_getElem hk
  have hv : (enc s.els[j / Enc.size α])[j % Enc.size α]? = some ((enc s.els[j / Enc.size α])[j % Enc.size α]'(by rw [Enc.len]; exact hi)) := List.getElem?_eq_getElem _
  have e := encs_get s.els _ _ _ _ hx hv
  have ej : j / Enc.size α * Enc.size α + j % Enc.size α = j := by rw [Nat.mul_comm]; exact Nat.div_add_mod _ _
  rw [ej, hj] at e
  have := h.cells _ _ hx _ _ hv
  rw [Nat.add_assoc, ej] at this
  rw [this, ← Option.some.inj e]
/-- s[i:] -/
def Slc.drop (s : Slc α) (i : Nat) : Slc α := ⟨if s.cap = i then s.A else s.A.map (·.add (i * Enc.size α)), s.len - i, s.cap - i, s.els.drop i⟩
/-- s[:i:i] -/
def Slc.take (s : Slc α) (i : Nat) : Slc α := ⟨s.A, i, i, s.els.take i⟩
theorem Slc.Good.drop (h : s.Good H) {i : Nat} (hi : i ≤ s.len) : (s.drop i).Good H := by
  have hlen := h.len
  have hcap := h.cap
  have hbig := h.big
  have hmem : ∀ k x, (s.els.drop i)[k]? = some x → s.els[i + k]? = some x := fun k x hk => by rw [List.getElem?_drop] at hk; exact hk
  have hat : 0 < s.len - i → (s.drop i).A = some ⟨s.b, s.o + i * Enc.size α, none⟩ := fun h0 => by
    have ha := h.at_ (by omega)
    unfold Slc.drop
    rw [if_neg (by omega), ha]
    simp only [Option.map_some, Addr.add]
    by_cases hz : i * Enc.size α = 0
    · rw [if_pos hz, hz]; rfl
    · rw [if_neg hz]
  have hb : 0 < s.len - i → (s.drop i).b = s.b ∧ (s.drop i).o = s.o + i * Enc.size α := fun h0 => by
    unfold Slc.b Slc.o
    rw [hat h0]
    exact ⟨rfl, rfl⟩
  refine ⟨by simp [Slc.drop, hlen], by simp only [Slc.drop]; omega, by simp only [Slc.drop]; omega, fun h0 => ?_, fun k x hk => ?_, fun x hx => h.els x (List.mem_of_mem_drop hx)⟩
  · rw [(hb h0).1, (hb h0).2]; exact hat h0
  · have hk' := hmem k x hk
    have hlt := (List.getElem?_eq_some_iff.1 hk').1
    obtain ⟨e1, e2⟩ := hb (by omega)
    rw [e1, e2]
    have := h.cells _ _ hk'
    rw [Nat.add_mul, ← Nat.add_assoc] at this
    exact this
theorem Slc.Good.take (h : s.Good H) {i : Nat} (hi : i ≤ s.len) : (s.take i).Good H := by
  have hlen := h.len
  have hcap := h.cap
  have hbig := h.big
  refine ⟨by simp [Slc.take, hlen, hi], Nat.le_refl _, by simp only [Slc.take]; omega, fun h0 => h.at_ (by simp only [Slc.take] at h0; omega), fun k x hk => ?_, fun x hx => h.els x (List.mem_of_mem_take hx)⟩
  have hk' : s.els[k]? = some x := by
    have : (s.els.take i)[k]? = some x := hk
    rw [List.getElem?_take] at this
    split at this
    · exact this
    · cases this
  exact h.cells k x hk'
end
section
variable {P : Program} {n : FK} {S : World → Prop} {env : List (Nat × Value)}
theorem run_equalIn_sliceNil {P : Program} (w : World) (d : Nat) (t e : TypeId) (A : Option Addr) (m c : Nat) (h : P.underlying t = some (.slice e)) : (Op.equalIn (d + 1) t (.slice A m c) (.slice none 0 0)).run P w = .ok A.isNone w := by
  cases A <;> simp [Op.equalIn, run_underlying h]
theorem V.sliceNil [Tys P] {t u e : TypeId} {x y : Operand} {A : Option Addr} {m c : Nat} {k : TyK} (hk : tyk P t = some k) (hd : k.desc = .slice e) (hx : ev env x = some (.slice A m c)) (hy : ev env y = some (.slice none 0 0)) : V P n S env (.binOp .eql t x y u) (.bool A.isNone) :=
  ⟨fun o a w ho hf _ => by
    obtain ⟨d, hu, hf'⟩ := (tyk_ok hk).und
    rw [hd] at hf'
    simp only [TyD.fits] at hf'
    subst hf'
    unfold execOp; rw [ho]
    simp [hf.ev hx, hf.ev hy, binOp, eqGuard, Op.equal, Op.maxDepth, run_equalIn_sliceNil w 9999 t e A m c hu]⟩
theorem V.nilCheck {x : Operand} {a : Addr} (hx : ev env x = some (.pointer (some a))) : V P n S env (.nilCheck x) (.pointer (some a)) :=
  ⟨fun o A w ho hf _ => by unfold execOp; rw [ho]; simp [hf.ev hx]⟩
theorem V.conv [Tys P] {s t : TypeId} {x : Operand} {i : Int} {q r : IntKind} {k ks : TyK} (hks : tyk P s = some ks) (hk : tyk P t = some k) (hd : k.desc = .int r) (hx : ev env x = some (.int q i)) (hi : r.wrap i = i) : V P n S env (.convert s t x) (.int r i) :=
  ⟨fun o A w ho hf _ => by
    obtain ⟨d, hu, hf'⟩ := (tyk_ok hk).und
    rw [hd] at hf'
    simp only [TyD.fits] at hf'
    subst hf'
    obtain ⟨d2, hu2, _⟩ := (tyk_ok hks).und
    unfold execOp; rw [ho]
    simp [hf.ev hx, convert, run_underlying hu, run_underlying hu2, Conv.intToInt, hi]⟩
theorem V.shr {t u : TypeId} {x y : Operand} {q r : IntKind} {i j : Int} (hx : ev env x = some (.int q i)) (hy : ev env y = some (.int r j)) (hj : 0 ≤ j ∧ j < 8) : V P n S env (.binOp .shr t x y u) (.int q (i.fdiv (2 ^ j.toNat))) :=
  ⟨fun o A w ho hf _ => by
    have h8 : min j.toNat q.bits = j.toNat := by cases q <;> simp [IntKind.bits] <;> omega
    unfold execOp; rw [ho]
    simp [hf.ev hx, hf.ev hy, binOp, eqGuard, Op.shift, show ¬ j < 0 by omega, h8]⟩
theorem V.sliceFrom [Tys P] {α : Type} [Enc α] {t e : TypeId} {x y : Operand} {s : Slc α} {i : Int} {k ke : TyK} {q : IntKind} (hk : tyk P t = some k) (hd : k.desc = .slice e) (hke : tyk P e = some ke) (hsz : ke.size = Enc.size α) (hx : ev env x = some s.v) (hy : ev env y = some (.int q i)) (hi : 0 ≤ i ∧ i ≤ s.len) (hc : s.len ≤ s.cap) :
    V P n S env (.slice t x (some y) none none) (s.drop i.toNat).v :=
  ⟨fun o A w ho hf _ => by
    obtain ⟨d, hu, hf'⟩ := (tyk_ok hk).und
    rw [hd] at hf'
    simp only [TyD.fits] at hf'
    subst hf'
    have h1 := run_bound (P := P) (w := w) (k := q) (i := i) (j := i.toNat) (y := s.len) (c := .sliceB) (by omega) (by omega)
    unfold execOp; rw [ho]
    simp [hf.ev hx, hf.ev hy, Instr.sliceAt, Instr.slice, Instr.sliceBounds, run_underlying hu, h1, (tyk_ok hke).sizeOf w, hsz, Slc.drop]⟩
theorem V.sliceCap [Tys P] {α : Type} [Enc α] {t e : TypeId} {x y z : Operand} {s : Slc α} {i : Int} {k ke : TyK} {q r : IntKind} (hk : tyk P t = some k) (hd : k.desc = .slice e) (hke : tyk P e = some ke) (hx : ev env x = some s.v) (hy : ev env y = some (.int q i)) (hz : ev env z = some (.int r i)) (hi : 0 ≤ i ∧ i ≤ s.len) (hc : s.len ≤ s.cap) :
    V P n S env (.slice t x none (some y) (some z)) (s.take i.toNat).v :=
  ⟨fun o A w ho hf _ => by
    obtain ⟨d, hu, hf'⟩ := (tyk_ok hk).und
    rw [hd] at hf'
    simp only [TyD.fits] at hf'
    subst hf'
    have h1 := run_bound (P := P) (w := w) (k := r) (i := i) (j := i.toNat) (y := s.cap) (c := .slice3Acap) (by omega) (by omega)
    have h2 := run_bound (P := P) (w := w) (k := q) (i := i) (j := i.toNat) (y := i.toNat) (c := .slice3B) (by omega) (by omega)
    have h3 : (if i.toNat = 0 then s.A else s.A.map (·.add 0)) = s.A := by
      split
      · rfl
      · cases s.A <;> simp [Addr.add]
    unfold execOp; rw [ho]
    simp [hf.ev hx, hf.ev hy, hf.ev hz, Instr.sliceAt, Instr.slice, Instr.sliceBounds, run_underlying hu, h1, h2, (tyk_ok hke).sizeOf w, Slc.take]
    cases s.A <;> simp [Addr.add]⟩
end
section
variable {P : Program} {n : FK} {w0 w w' : World} {H0 H H' : Hp} {Q : Exit → Act → World → Prop} {env : List (Nat × Value)} {L L' : List Loc} {ops rest : List Oper} {α : Type} [Enc α]
theorem St.perm (hs : St w0 H0 H L w) (hp : L.Perm L') : St w0 H0 H L' w :=
  ⟨hs.below, hs.sat, hs.le, hs.new, fun e he => hs.ok e (hp.mem_iff.2 he), fun e he => hs.out e (hp.mem_iff.2 he), hs.apart.perm hp (fun h b hb hb' => h b hb' hb)⟩
theorem T.perm {c : Code} (L' : List Loc) (hp : L.Perm L') (h : T P n w0 H0 c Q env H L') : T P n w0 H0 c Q env H L := ⟨fun a w hf hs => h.out a w hf (hs.perm hp)⟩
theorem TL.perm (L' : List Loc) (hp : L.Perm L') (h : TL P n w0 H0 ops Q rest env H L') : TL P n w0 H0 ops Q rest env H L := ⟨fun a w hf hs => h.out a w hf (hs.perm hp)⟩
theorem T.freezeRow {c : Code} {v : Value} {e : TypeId} {size m : Nat} {els : List α} (hsz : size = Enc.size α) (hm : els.length = m) (hg : ∀ x ∈ els, Enc.good H x) (h : ∀ (H' : Hp) (s : Slc α), s.v = v → s.els = els → s.Good H' → H.le H' → T P n w0 H0 c Q env H' L) :
    T P n w0 H0 c Q env H (.row v e size m (encs els) :: L) :=
  ⟨fun a w hf hs => by
    obtain ⟨H', s, h1, h2, h3, h4, h5⟩ := hs.freezeRow hsz hm hg
    exact (h H' s h1 h2 h3 h4).out a w hf h5⟩
theorem TL.freezeRow {v : Value} {e : TypeId} {size m : Nat} {els : List α} (hsz : size = Enc.size α) (hm : els.length = m) (hg : ∀ x ∈ els, Enc.good H x) (h : ∀ (H' : Hp) (s : Slc α), s.v = v → s.els = els → s.Good H' → H.le H' → TL P n w0 H0 ops Q rest env H' L) :
    TL P n w0 H0 ops Q rest env H (.row v e size m (encs els) :: L) :=
  ⟨fun a w hf hs => by
    obtain ⟨H', s, h1, h2, h3, h4, h5⟩ := hs.freezeRow hsz hm hg
    exact (h H' s h1 h2 h3 h4).out a w hf h5⟩
theorem run_append_none {P : Program} {w : World} (base : Nat) (t ty e : TypeId) (i : TypeInfo) (size c : Nat) (ht : P.underlying t = some (.slice e)) (hi : P.info? e = some i)
    (v : Value) (n : Nat) (xs : List Value) (hown : w.ownsRow base e size v n xs) : (Builtin.append_ #[t, t] ty #[v, .slice none 0 c]).run P w = .ok v w := by
  rcases hown.2 with ⟨rfl, rfl⟩ | ⟨g, cap, cur, rfl, _, _, hnc, _⟩
  · simp [Builtin.append_, run_underlying ht, sizeOf, typeInfo, hi, Builtin.lenOf, Builtin.firstCells]
  · simp [Builtin.append_, run_underlying ht, sizeOf, typeInfo, hi, Builtin.lenOf, Builtin.firstCells, hnc, storeCells]
/-- 'append(row, s...)', s a slice that nobody writes. -/
theorem X.appendSlc [Tys P] (i : Nat) (s : Slc α) {d : Nat} {t e ty : TypeId} {x y : Operand} {pos : String} {after : Array Edge} {g : Option (Nat × Bool)} {k ke : TyK} {v : Value} {m : Nat} {xs : List Value} (hn : Nat.blt d n.n = true) (hk : tyk P t = some k) (hd : k.desc = .slice e) (hke : tyk P e = some ke) (h0 : Nat.beq ke.size 0 = false) (hz : Nat.beq ke.zero.cells.size ke.size = true)
    (hx : ev env x = some v) (hi : L[i]? = some (.row v e ke.size m xs)) (hy : ev env y = some s.v) (hsz : ke.size = Enc.size α) (hg : s.Good H) (hb : (m + s.len) * ke.bytes ≤ 140737488355328) (h63 : m + s.len ≤ 9223372036854775807) :
    X P n w0 H0 env H L ⟨some d, .call { callee := .builtin .append, args := #[x, y], argTypes := #[t, t] }, ty, pos, after, g⟩ false (G := Value) (fun v' => v' = .slice none 0 0 ↔ v = .slice none 0 0 ∧ s.len = 0) (fun v' => (d, v') :: env) (fun _ => H) (fun v' => L.set i (.row v' e ke.size (m + s.len) (xs ++ encs s.els))) :=
  ⟨fun a w hf hs K Q hK => by
    have hl : (encs s.els).length = s.len * ke.size := by rw [encs_length, hg.len, hsz]
    cases hA : s.A with
    | some ad =>
      obtain ⟨v', w', hrun, hst, hnil⟩ := run_append_x hs hk hd hke h0 hz hi (ad := ad) (c := s.cap) hl (fun q u hu => by
        have hq := (List.getElem?_eq_some_iff.1 hu).1
        have hpos : 0 < s.len := Nat.pos_of_ne_zero fun e => by rw [hl, e, Nat.zero_mul] at hq; omega
        have := hg.at_ hpos
        rw [hA] at this
        rw [Option.some.inj this, Addr.add_mid]
        exact hs.sat.cell (hg.all q u hu)) (fun u hu => encs_one _ u hu) hb h63 ty
      unfold Oper.wp
      rw [run_appendOp (v := v) (u := .slice (some ad) s.len s.cap) rfl (hf.ev hx) (by rw [← hA]; exact hf.ev hy) hrun]
      exact hK v' _ _ hnil (fun h => by cases h) (hf.put hn _) hst
    | none =>
      have hl0 : s.len = 0 := by
        rcases Nat.eq_zero_or_pos s.len with h | h
        · exact h
        · have := hg.at_ h; rw [hA] at this; cases this
      have hels : s.els = [] := List.eq_nil_of_length_eq_zero (by rw [hg.len]; exact hl0)
      obtain ⟨dd, hu, hf'⟩ := (tyk_ok hk).und
      rw [hd] at hf'
      simp only [TyD.fits] at hf'
      subst hf'
      obtain ⟨inf, hinf, _, _, _⟩ := (tyk_ok hke).get
      have hrun := run_append_none w0.heap.size t ty e inf ke.size s.cap hu hinf v m xs (hs.ok _ (List.mem_of_getElem? hi))
      unfold Oper.wp
      rw [run_appendOp (v := v) (u := .slice none 0 s.cap) rfl (hf.ev hx) (by rw [← hA, ← hl0]; exact hf.ev hy) hrun]
      refine hK v _ _ ⟨fun h => ⟨h, hl0⟩, fun h => h.1⟩ (fun h => by cases h) (hf.put hn _) ?_
      have he : L.set i (.row v e ke.size (m + s.len) (xs ++ encs s.els)) = L := by
        rw [hl0, hels, encs_nil, List.append_nil, Nat.add_zero]
        apply List.ext_getElem?
        intro j
        rw [List.getElem?_set]
        by_cases e : i = j
        · subst e
          rw [if_pos rfl, hi, if_pos (List.getElem?_eq_some_iff.1 hi).1]
        · rw [if_neg e]
      rw [he]; exact hs⟩
end
end Go.Proofs.YtfbhcemlnojejaaDoor
namespace Go.Proofs.YtfbhcemlnojejaaDoor
set_option linter.unusedVariables false
set_option linter.unusedSimpArgs false
open Go Go.RowKit
open Enc (enc)
theorem putCells_mid : ∀ (vs a b c : List Value) (j : Nat), j + vs.length ≤ b.length → putCells (a ++ (b ++ c)) (a.length + j) vs = a ++ (putCells b j vs ++ c)
  | [], _, _, _, _, _ => rfl
  | v :: vs, a, b, c, j, h => by
    simp only [List.length_cons] at h
    have e : (a ++ (b ++ c)).set (a.length + j) v = a ++ (b.set j v ++ c) := by
      rw [List.set_append_right _ _ (by omega), show a.length + j - a.length = j by omega, List.set_append_left _ _ (by omega)]
    rw [putCells, e, Nat.add_assoc, putCells_mid vs a (b.set j v) c (j + 1) (by simp; omega)]
    rfl
section
variable {α : Type} [Enc α]
theorem encs_put {l : List α} {k j : Nat} {x y : α} {vs : List Value} (hk : l[k]? = some x) (hj : j + vs.length ≤ Enc.size α) (h : putCells (enc x) j vs = enc y) {o : Nat} (ho : o = k * Enc.size α + j) : putCells (encs l) o vs = encs (l.set k y) := by
  have hlt := (List.getElem?_eq_some_iff.1 hk).1
  have hx : l[k] = x := (List.getElem?_eq_some_iff.1 hk).2
  have e1 : l = l.take k ++ ([x] ++ l.drop (k + 1)) := by
    rw [← hx]; simp
  have e2 : l.set k y = l.take k ++ ([y] ++ l.drop (k + 1)) := by
    rw [List.set_eq_take_append_cons_drop, if_pos hlt]; rfl
  have hl : (encs (l.take k)).length = k * Enc.size α := by rw [encs_length, List.length_take, Nat.min_eq_left (by omega)]
  have s1 : ∀ z : α, encs [z] = enc z := fun z => by simp [encs]
  rw [ho, e2]
  conv => lhs; rw [e1]
  rw [encs_append, encs_append, encs_append, encs_append, s1, s1, ← hl, putCells_mid _ _ _ _ _ (by rw [Enc.len]; exact hj), h]
end
section
variable {P : Program} {n : FK} {w0 w w' : World} {H0 H H' : Hp} {Q : Exit → Act → World → Prop} {env : List (Nat × Value)} {L L' : List Loc} {ops rest : List Oper} {α : Type} [Enc α]
theorem X.storeRowE [Tys P] {t ty : TypeId} {p x : Operand} {pos : String} {after : Array Edge} {g : Option (Nat × Bool)} {b o m c size : Nat} {e : TypeId} {xs ys vs : List Value} {v : Value} {k : TyK} (i : Nat) (hk : tyk P t = some k)
    (hp : ev env p = some (.pointer (some ⟨b, o, none⟩))) (hx : ev env x = some v) (hi : L[i]? = some (.row (.slice (some ⟨b, 0, none⟩) m c) e size m xs)) (hv : v.cells = vs.toArray) (hl : vs.length = k.size) (h1 : vs.all (·.oneCell') = true) (ho : o + vs.length ≤ m * size) (he : putCells xs o vs = ys) :
    X P n w0 H0 env H L ⟨none, .store t p x, ty, pos, after, g⟩ false (G := Unit) (fun _ => True) (fun _ => env) (fun _ => H) (fun _ => L.set i (.row (.slice (some ⟨b, 0, none⟩) m c) e size m ys)) := by
  subst he
  exact X.storeRow i hk hp hx hi hv hl h1 ho
theorem St.rowShape {v : Value} {e : TypeId} {size m : Nat} {xs : List Value} (hs : St w0 H0 H L w) (hm : Loc.row v e size m xs ∈ L) : ∃ (o : Option Nat) (c : Nat), v = .slice (o.map fun g => ⟨g, 0, none⟩) m c ∧ (o = none → m = 0 ∧ c = 0) := by
  rcases (show w.ownsRow w0.heap.size e size v m xs from hs.ok _ hm).2 with ⟨rfl, rfl⟩ | ⟨g, cap, cur, rfl, _⟩
  · exact ⟨none, 0, rfl, fun _ => ⟨rfl, rfl⟩⟩
  · exact ⟨some g, cap, rfl, fun h => by cases h⟩
end
end Go.Proofs.YtfbhcemlnojejaaDoor
