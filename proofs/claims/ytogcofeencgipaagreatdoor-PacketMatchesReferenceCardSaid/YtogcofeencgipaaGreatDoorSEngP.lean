/- The engine: rows that are cut longer and copied into; panics; deferred calls. -/
import Derived.Test.YtogcofeencgipaaGreatDoorSEngB
import Derived.Test.YtogcofeencgipaaGreatDoorSTac
import Derived.Lib.AppendZeros
import Derived.DefersIn
import Derived.Recover
namespace Go.Proofs.YtogcofeencgipaaGreatDoor
set_option linter.unusedVariables false
set_option linter.unusedSimpArgs false
open Go Go.RowKit
open Enc (enc)
set_option maxRecDepth 20000
section
variable {P : Program} {n : FK} {w0 w w' : World} {H0 H H' : Hp} {Q : Exit → Act → World → Prop} {env : List (Nat × Value)} {L L' : List Loc} {ops rest : List Oper} {S : World → Prop}
/-- 'x[:i]' up to the capacity. -/
theorem V.sliceToC [Tys P] {t e : TypeId} {x y : Operand} {b o m c j : Nat} {i : Int} {k ke : TyK} {q : IntKind} (hk : tyk P t = some k) (hd : k.desc = .slice e) (hke : tyk P e = some ke) (hx : ev env x = some (.slice (some ⟨b, o, none⟩) m c)) (hy : ev env y = some (.int q i)) (hi : i = (j : Int)) (hc : j ≤ c) :
    V P n S env (.slice t x none (some y) none) (.slice (some ⟨b, o, none⟩) j c) :=
  ⟨fun op A w ho hf _ => by
    obtain ⟨d, hu, hf'⟩ := (tyk_ok hk).und
    rw [hd] at hf'
    simp only [TyD.fits] at hf'
    subst hf'
    have h1 := run_bound (P := P) (w := w) (k := q) (i := i) (j := j) (y := c) (c := .sliceAcap) hi hc
    unfold execOp; rw [ho]
    simp [hf.ev hx, hf.ev hy, Instr.sliceAt, Instr.slice, Instr.sliceBounds, run_underlying hu, h1, (tyk_ok hke).sizeOf w, Addr.add]⟩
/-- 'x[i:]'. -/
theorem V.sliceFromC [Tys P] {t e : TypeId} {x y : Operand} {b o m c j : Nat} {i : Int} {A : Option Addr} {m' c' : Nat} {k ke : TyK} {q : IntKind} (hk : tyk P t = some k) (hd : k.desc = .slice e) (hke : tyk P e = some ke) (hx : ev env x = some (.slice (some ⟨b, o, none⟩) m c)) (hy : ev env y = some (.int q i)) (hi : i = (j : Int)) (hm : j ≤ m) (hA : A = if c = j then some ⟨b, o, none⟩ else some ⟨b, o + j * ke.size, none⟩) (hm' : m - j = m') (hc' : c - j = c') :
    V P n S env (.slice t x (some y) none none) (.slice A m' c') :=
  ⟨fun op a w ho hf _ => by
    obtain ⟨d, hu, hf'⟩ := (tyk_ok hk).und
    rw [hd] at hf'
    simp only [TyD.fits] at hf'
    subst hf'
    subst hm' hc' hA
    have h1 := run_bound (P := P) (w := w) (k := q) (i := i) (j := j) (y := m) (c := .sliceB) hi hm
    unfold execOp; rw [ho]
    by_cases hc : c = j
    · simp [hf.ev hx, hf.ev hy, Instr.sliceAt, Instr.slice, Instr.sliceBounds, run_underlying hu, h1, (tyk_ok hke).sizeOf w, hc, Addr.add]
    · simp [hf.ev hx, hf.ev hy, Instr.sliceAt, Instr.slice, Instr.sliceBounds, run_underlying hu, h1, (tyk_ok hke).sizeOf w, hc, Addr.add]⟩
theorem V.nilSliceFrom [Tys P] {t e : TypeId} {x y : Operand} {i : Int} {k ke : TyK} {q : IntKind} (hk : tyk P t = some k) (hd : k.desc = .slice e) (hke : tyk P e = some ke) (hx : ev env x = some (.slice none 0 0)) (hy : ev env y = some (.int q i)) (hi : i = 0) :
    V P n S env (.slice t x (some y) none none) (.slice none 0 0) :=
  ⟨fun op a w ho hf _ => by
    obtain ⟨d, hu, hf'⟩ := (tyk_ok hk).und
    rw [hd] at hf'
    simp only [TyD.fits] at hf'
    subst hf'
    have h1 := run_bound (P := P) (w := w) (k := q) (i := i) (j := 0) (y := 0) (c := .sliceB) hi (Nat.le_refl _)
    unfold execOp; rw [ho]
    simp [hf.ev hx, hf.ev hy, Instr.sliceAt, Instr.slice, Instr.sliceBounds, run_underlying hu, h1, (tyk_ok hke).sizeOf w]⟩
theorem V.quoE {q : IntKind} {t u : TypeId} {x y : Operand} {i j m : Int} (hx : ev env x = some (.int q i)) (hy : ev env y = some (.int q j)) (hm : i.tdiv j = m) (hw : q.wrap m = m) (hj : 0 < j) : V P n S env (.binOp .quo t x y u) (.int q m) :=
  ⟨fun o a w ho hf _ => by
    unfold execOp; rw [ho]
    simp only [hf.ev hx, hf.ev hy, binOp, eqGuard, Op.intDiv]
    simp [show j ≠ 0 by omega, hm, hw]⟩
/-- An own row may be cut longer, up to its capacity. -/
theorem St.longer (hs : St w0 H0 H L w) {i b m c size : Nat} {e : TypeId} {xs : List Value} (k : Nat) (hi : L[i]? = some (.row (.slice (some ⟨b, 0, none⟩) m c) e size m xs)) (hmk : m ≤ k) (hkc : k ≤ c) : ∃ ys : List Value, ys.length = (k - m) * size ∧ St w0 H0 H (L.set i (.row (.slice (some ⟨b, 0, none⟩) k c) e size k (xs ++ ys))) w := by
  obtain ⟨cur, h1, h2, h3, h4, h5, h6, h7⟩ := hs.row_get (List.mem_of_getElem? hi)
  have hmk' : m * size ≤ k * size := Nat.mul_le_mul_right _ hmk
  have hkc' : k * size ≤ c * size := Nat.mul_le_mul_right _ hkc
  have hl : cur.toList.length = c * size := by rw [Array.length_toList]; exact h6
  have hsub : k * size - m * size = (k - m) * size := (Nat.sub_mul k m size).symm
  refine ⟨(cur.toList.take (k * size)).drop (m * size), by rw [List.length_drop, List.length_take, hl, Nat.min_eq_left hkc', hsub], ?_⟩
  refine hs.set (w' := w) hi rfl rfl (fun _ _ => rfl) rfl rfl rfl rfl ?_
  have hx : xs ++ (cur.toList.take (k * size)).drop (m * size) = cur.toList.take (k * size) := by
    rw [← h7]
    conv => rhs; rw [← List.take_append_drop (m * size) (cur.toList.take (k * size))]
    rw [List.take_take, Nat.min_eq_left hmk']
  rw [hx]
  exact ⟨by rw [List.length_take, hl]; exact Nat.min_eq_left hkc', .inr ⟨b, c, cur, rfl, h2, h1, hkc, h5, h6, rfl⟩⟩
/-- 'copy(row[..], "..")'. -/
theorem X.copyStr [Tys P] (i : Nat) {d : Nat} {t t' e ty : TypeId} {x y : Operand} {pos : String} {after : Array Edge} {g : Option (Nat × Bool)} {k ke : TyK} {b m c o j c' : Nat} {s : Bytes} {xs xs' : List Value} (hn : Nat.blt d n.n = true) (hk : tyk P t = some k) (hd : k.desc = .slice e) (hke : tyk P e = some ke) (h1 : ke.size = 1)
    (hx : ev env x = some (.slice (some ⟨b, o, none⟩) j c')) (hi : L[i]? = some (.row (.slice (some ⟨b, 0, none⟩) m c) e 1 m xs)) (hy : ev env y = some (strV s)) (hj : s.length = j) (hoj : o + j ≤ m) (hxs : putCells xs o (encs s) = xs') :
    X P n w0 H0 env H L ⟨some d, .call { callee := .builtin .copy, args := #[x, y], argTypes := #[t, t'] }, ty, pos, after, g⟩ false (G := Unit) (fun _ => True) (fun _ => (d, intV j) :: env) (fun _ => H) (fun _ => L.set i (.row (.slice (some ⟨b, 0, none⟩) m c) e 1 m xs')) :=
  ⟨fun a w hf hs K Q hK => by
    obtain ⟨dd, hu, hf'⟩ := (tyk_ok hk).und
    rw [hd] at hf'
    simp only [TyD.fits] at hf'
    subst hf'
    subst hj
    obtain ⟨inf, hinf, e1, e2, e3⟩ := (tyk_ok hke).get
    have hl : (encs s).length = s.length := encs_byte s
    have hst := hs.rowStores (P := P) (o := o) (vs := encs s) hi (by rw [hl]; omega) (fun u hu => encs_one _ u hu)
    have hs2 := hs.storeRow (o := o) (vs := encs s) hi (by rw [hl]; omega)
    rw [hxs] at hs2
    have hcells : List.take s.length (List.map (fun b : UInt8 => Value.int .u8 (b.toNat : Int)) s) = encs s := by
      rw [List.take_of_length_le (by simp), ← strCells_encs]
      simp [Lib.strCells]
    have hrun : (Builtin.copy_ #[t, t'] ty #[.slice (some ⟨b, o, none⟩) s.length c', strV s]).run P w = .ok (intV s.length) (w.setCells b o (encs s)) := by
      have hsz : (⟨s.toArray⟩ : ByteArray).size = s.length := rfl
      simp [Builtin.copy_, run_underlying hu, Builtin.lenOf, Builtin.firstCells, sizeOf, typeInfo, hinf, hsz]
      rw [hcells]
      simp [hst]
      rfl
    have : (execOp a.eval ⟨some d, .call { callee := .builtin .copy, args := #[x, y], argTypes := #[t, t'] }, ty, pos, after, g⟩).run P w = .ok (.value (intV s.length)) (w.setCells b o (encs s)) := by
      unfold execOp
      simp [resolve, invoke, builtin, hf.ev hx, hf.ev hy, hrun]
    unfold Oper.wp
    rw [this]
    exact hK () _ _ trivial (fun h => by cases h) (hf.put hn _) hs2⟩
/-- 'copy(row[..], s)', s a slice that nobody writes. -/
theorem X.copyAt {α : Type} [Enc α] [Tys P] (i : Nat) (s : Slc α) {d : Nat} {t t' e ty : TypeId} {x y : Operand} {pos : String} {after : Array Edge} {g : Option (Nat × Bool)} {k ke : TyK} {b m c o j c' : Nat} {xs xs' : List Value} (hn : Nat.blt d n.n = true) (hk : tyk P t = some k) (hd : k.desc = .slice e) (hke : tyk P e = some ke)
    (hx : ev env x = some (.slice (some ⟨b, o, none⟩) j c')) (hi : L[i]? = some (.row (.slice (some ⟨b, 0, none⟩) m c) e ke.size m xs)) (hy : ev env y = some s.v) (hsz : ke.size = Enc.size α) (hg : s.Good H) (hj : s.len ≤ j) (hoj : o + s.len * ke.size ≤ m * ke.size) (hxs : putCells xs o (encs s.els) = xs') :
    X P n w0 H0 env H L ⟨some d, .call { callee := .builtin .copy, args := #[x, y], argTypes := #[t, t'] }, ty, pos, after, g⟩ false (G := Unit) (fun _ => True) (fun _ => (d, intV s.len) :: env) (fun _ => H) (fun _ => L.set i (.row (.slice (some ⟨b, 0, none⟩) m c) e ke.size m xs')) :=
  ⟨fun a w hf hs K Q hK => by
    obtain ⟨dd, hu, hf'⟩ := (tyk_ok hk).und
    rw [hd] at hf'
    simp only [TyD.fits] at hf'
    subst hf'
    have hmin : min s.len j = s.len := Nat.min_eq_left hj
    obtain ⟨inf, hinf, e1, e2, e3⟩ := (tyk_ok hke).get
    have hl : (encs s.els).length = s.len * ke.size := by rw [encs_length, hg.len, hsz]
    have hst := hs.rowStores (P := P) (o := o) (vs := encs s.els) hi (by rw [hl]; exact hoj) (fun u hu => encs_one _ u hu)
    have hs2 := hs.storeRow (o := o) (vs := encs s.els) hi (by rw [hl]; exact hoj)
    rw [hxs] at hs2
    have hrun : (Builtin.copy_ #[t, t'] ty #[.slice (some ⟨b, o, none⟩) j c', s.v]).run P w = .ok (intV s.len) (w.setCells b o (encs s.els)) := by
      cases hA : s.A with
      | some ad =>
        have hld := run_loadCells_list (P := P) w ad (encs s.els) (fun q u hu => by
          have hq := (List.getElem?_eq_some_iff.1 hu).1
          have hpos : 0 < s.len := Nat.pos_of_ne_zero fun e => by rw [hl, e, Nat.zero_mul] at hq; omega
          have := hg.at_ hpos
          rw [hA] at this
          rw [Option.some.inj this, Addr.add_mid]
          exact hs.sat.cell (hg.all q u hu))
        rw [hl] at hld
        have hv : s.v = .slice (some ad) s.len s.cap := by unfold Slc.v; rw [hA]
        rw [hv]
        simp [Builtin.copy_, run_underlying hu, Builtin.lenOf, Builtin.firstCells, sizeOf, typeInfo, hinf, e1, hA, hmin, hld, hst]
        rfl
      | none =>
        have hl0 : s.len = 0 := by
          rcases Nat.eq_zero_or_pos s.len with h | h
          · exact h
          · have := hg.at_ h; rw [hA] at this; cases this
        have hels : s.els = [] := List.eq_nil_of_length_eq_zero (by rw [hg.len]; exact hl0)
        have hv : s.v = .slice none 0 s.cap := by unfold Slc.v; rw [hA, hl0]
        rw [hv, hels, encs_nil, hl0]
        simp [Builtin.copy_, run_underlying hu, Builtin.lenOf, Builtin.firstCells, sizeOf, typeInfo, hinf, e1, storeCells, World.setCells]
        rfl
    have : (execOp a.eval ⟨some d, .call { callee := .builtin .copy, args := #[x, y], argTypes := #[t, t'] }, ty, pos, after, g⟩).run P w = .ok (.value (intV s.len)) (w.setCells b o (encs s.els)) := by
      unfold execOp
      simp [resolve, invoke, builtin, hf.ev hx, hf.ev hy, hrun]
    unfold Oper.wp
    rw [this]
    exact hK () _ _ trivial (fun h => by cases h) (hf.put hn _) hs2⟩
/-- 'make([]T, m, c)'. -/
theorem X.makeSliceC {α : Type} [Enc α] [Tys P] (z0 : α) (m c : Nat) {d : Nat} {t e ty : TypeId} {x y : Operand} {pos : String} {after : Array Edge} {g : Option (Nat × Bool)} {k ke : TyK} {kl kc : IntKind} {i j : Int} (hn : Nat.blt d n.n = true) (hk : tyk P t = some k) (hd : k.desc = .slice e) (hke : tyk P e = some ke)
    (hx : ev env x = some (.int kl i)) (hy : ev env y = some (.int kc j)) (hi : i = m) (hj : j = c) (hmc : m ≤ c) (hz : ke.zero.cells.toList = enc z0) (hsz : ke.size = Enc.size α) (hb : ke.bytes * c ≤ 281474976710656) (h63 : c ≤ 9223372036854775807) :
    X P n w0 H0 env H L ⟨some d, .makeSlice t x y, ty, pos, after, g⟩ true (G := Nat) (fun _ => True) (fun b => (d, .slice (some ⟨b, 0, none⟩) m c) :: env) (fun _ => H) (fun b => .row (.slice (some ⟨b, 0, none⟩) m c) e ke.size m (encs (List.replicate m z0)) :: L) :=
  ⟨fun a w hf hs K Q hK => by
    obtain ⟨dd, hu, hf'⟩ := (tyk_ok hk).und
    rw [hd] at hf'
    simp only [TyD.fits] at hf'
    subst hf'
    subst hi hj
    obtain ⟨inf, hinf, e1, e2, e3⟩ := (tyk_ok hke).get
    have hb' : (inf.bytes : Int) * (c : Int) ≤ 281474976710656 := by
      have h : ((ke.bytes * c : Nat) : Int) ≤ 281474976710656 := by omega
      rw [e2]
      rwa [Int.natCast_mul] at h
    have hr := run_make (P := P) w t e inf ke.zero hu hinf e3 kl kc (m : Int) (c : Int) (by omega) (by omega) hb' (by omega)
    simp only [Int.toNat_natCast] at hr
    have : (execOp a.eval ⟨some d, .makeSlice t x y, ty, pos, after, g⟩).run P w = .ok (.value (.slice (some ⟨w.heap.size, 0, none⟩) m c)) (w.alloc (.cells (madeCells ke.zero.cells (c * inf.size)) e)) := by
      unfold execOp
      simp only [hf.ev hx, hf.ev hy, Sem.run_bind, hr]
      rfl
    unfold Oper.wp
    rw [this]
    refine hK _ _ _ trivial (fun _ => (Below.refl _ _).alloc (Nat.le_refl _) _) (hf.put hn _) (hs.alloc (e := .row (.slice (some ⟨w.heap.size, 0, none⟩) m c) e ke.size m (encs (List.replicate m z0))) rfl ?_)
    have hm := made_encs hz c
    refine ⟨by rw [encs_length, List.length_replicate, hsz], .inr ⟨w.heap.size, c, _, rfl, hs.below.size, heap_alloc_new w _, hmc, h63, ?_, ?_⟩⟩
    · rw [size_madeCells, e1]
    · rw [e1, hsz, hm, encs_take, List.take_replicate, Nat.min_eq_left hmc]⟩
/-- Less is known of the heap. -/
theorem St.lessH (hs : St w0 H0 H' L w) (h0 : H0.le H) (h : H.le H') : St w0 H0 H L w where
  below := hs.below
  sat := fun k o hk => hs.sat k o (h k o hk)
  le := h0
  new := fun k h1 h2 => hs.new k h1 (by
    cases hk : H k with
    | none => exact absurd hk h2
    | some o => rw [h k o hk]; simp)
  ok := hs.ok
  out := fun e he b hb => by
    cases hk : H b with
    | none => rfl
    | some o => rw [← hs.out e he b hb, h b o hk]
  apart := hs.apart
/-- 'append([]byte(nil), make([]byte, n)...)'. -/
theorem X.appendZeros [Tys P] (m : Nat) {d : Nat} {t tn e ty : TypeId} {x y : Operand} {pos : String} {after : Array Edge} {g : Option (Nat × Bool)} {k kn ke : TyK} {q q' : IntKind} {i : Int} (hn : Nat.blt d n.n = true) (hk : tyk P t = some k) (hd : k.desc = .slice e) (hkn : tyk P tn = some kn) (hdn : kn.desc = .int q') (hke : tyk P e = some ke) (h1 : ke.size = 1) (hz : ke.zero.cells.size = 1)
    (hx : ev env x = some (.slice none 0 0)) (hy : ev env y = some (.int q i)) (hi : i = m) (h0 : 0 < m) (h63 : m ≤ 9223372036854775807) (hb : m * ke.bytes ≤ 281474976710656) :
    X P n w0 H0 env H L ⟨some d, .call { callee := .builtin .append, args := #[x, y], argTypes := #[t, tn] }, ty, pos, after, g⟩ true (G := Nat × Nat × List Value) (fun p => p.2.2.length = m ∧ m ≤ p.2.1) (fun p => (d, .slice (some ⟨p.1, 0, none⟩) m p.2.1) :: env) (fun _ => H) (fun p => .row (.slice (some ⟨p.1, 0, none⟩) m p.2.1) e 1 m p.2.2 :: L) :=
  ⟨fun a w hf hs K Q hK => by
    obtain ⟨dd, hu, hf'⟩ := (tyk_ok hk).und
    rw [hd] at hf'
    simp only [TyD.fits] at hf'
    subst hf'
    obtain ⟨dn, hun, hfn⟩ := (tyk_ok hkn).und
    rw [hdn] at hfn
    simp only [TyD.fits] at hfn
    subst hfn
    subst hi
    obtain ⟨inf, hinf, e1, e2, e3⟩ := (tyk_ok hke).get
    have hr := Lib.run_append_nil_zeros (P := P) w t tn ty e inf ke.zero q q' hu hun hinf e3 m h0 (by rw [e1, h1]; decide) (by omega) (by rw [e2]; exact hb)
    have hge := grownCap_ge w m 0 e
    have hle := grownCap_le_maxLen w m 0 e (by unfold maxLen; omega)
    generalize grownCap w m 0 e = cap at *
    have hsz : ∀ j, (Builtin.zeroCells ke.zero.cells j).size = j := fun j => by simp [Builtin.zeroCells, hz]
    unfold Oper.wp
    rw [run_appendOp (v := .slice none 0 0) (u := .int q m) rfl (hf.ev hx) (hf.ev hy) hr]
    refine hK (w.heap.size, cap, (Builtin.zeroCells ke.zero.cells m).toList) _ _ ⟨by rw [Array.length_toList, hsz], hge⟩ (fun _ => ((Below.refl _ _).drew).alloc (Nat.le_refl _) _) (hf.put hn _) ?_
    refine hs.drew.alloc (e := .row (.slice (some ⟨w.heap.size, 0, none⟩) m cap) e 1 m (Builtin.zeroCells ke.zero.cells m).toList) rfl ?_
    refine ⟨by rw [Array.length_toList, hsz, Nat.mul_one], .inr ⟨w.heap.size, cap, _, rfl, hs.below.size, heap_alloc_new w.drew _, hge, hle, ?_, ?_⟩⟩
    · rw [Array.size_append, hsz, hsz]; omega
    · rw [Array.toList_append, List.take_left' (by rw [Array.length_toList, hsz, Nat.mul_one])]⟩
/-- A contract for the first two of the call's own, wherever they stand. -/
theorem CallsIn.at2 {f : FuncId} {args : Array Value} {G : Type} {φ : G → Prop} {v : G → Value} {HH : G → Hp} {e1 e2 : Loc} {e1' e2' : G → Loc} (pre : List Loc) (hs : St w0 H0 H (pre ++ e1 :: e2 :: L) w)
    (h : ∀ L', St w0 H0 H (e1 :: e2 :: L') w → CallsIn (FW none) 0 P f args w (fun e w' => ∃ g, φ g ∧ e = .returned (v g) ∧ St w0 H0 (HH g) (e1' g :: e2' g :: L') w')) :
    CallsIn (FW none) 0 P f args w (fun e w' => ∃ g, φ g ∧ e = .returned (v g) ∧ St w0 H0 (HH g) (pre ++ e1' g :: e2' g :: L) w') := by
  have hp : ∀ (a b : Loc), (pre ++ a :: b :: L).Perm (a :: b :: (pre ++ L)) := fun a b => by
    have h1 : (pre ++ a :: b :: L).Perm (a :: (pre ++ b :: L)) := List.perm_middle
    exact h1.trans (List.Perm.cons a List.perm_middle)
  refine (h (pre ++ L) (hs.perm (hp e1 e2))).mono fun e w' ⟨g, h1, h2, h3⟩ => ⟨g, h1, h2, h3.perm (hp _ _).symm⟩
theorem CallsIn.at1 {f : FuncId} {args : Array Value} {G : Type} {φ : G → Prop} {v : G → Value} {HH : G → Hp} {e1 : Loc} {e1' : G → Loc} (pre : List Loc) (hs : St w0 H0 H (pre ++ e1 :: L) w)
    (h : ∀ L', St w0 H0 H (e1 :: L') w → CallsIn (FW none) 0 P f args w (fun e w' => ∃ g, φ g ∧ e = .returned (v g) ∧ St w0 H0 (HH g) (e1' g :: L') w')) :
    CallsIn (FW none) 0 P f args w (fun e w' => ∃ g, φ g ∧ e = .returned (v g) ∧ St w0 H0 (HH g) (pre ++ e1' g :: L) w') := by
  have hp : ∀ (a : Loc), (pre ++ a :: L).Perm (a :: (pre ++ L)) := fun a => List.perm_middle
  refine (h (pre ++ L) (hs.perm (hp e1))).mono fun e w' ⟨g, h1, h2, h3⟩ => ⟨g, h1, h2, h3.perm (hp _).symm⟩
/-- A value, as an operation that may come up out of its turn. -/
theorem X.val {d : Nat} {op : Op} {ty : TypeId} {pos : String} {after : Array Edge} {g : Option (Nat × Bool)} {v : Value} (hn : Nat.blt d n.n = true) (hv : V P n (St w0 H0 H L) env op v) :
    X P n w0 H0 env H L ⟨some d, op, ty, pos, after, g⟩ true (G := Unit) (fun _ => True) (fun _ => (d, v) :: env) (fun _ => H) (fun _ => L) :=
  ⟨fun a w hf hs K Q hK => by
    unfold Oper.wp
    rw [hv.out _ a w rfl hf hs]
    exact hK () _ _ trivial (fun _ => Below.refl _ _) (hf.put hn v) hs⟩
end
end Go.Proofs.YtogcofeencgipaaGreatDoor
