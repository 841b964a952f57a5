/- An engine for walks: slices that the call makes, copies into them, ends that are cut off. -/
import Derived.Test.YtfbhcemlnojejaaDoorEngI
import Derived.Laws.MakeOwn
import Derived.Laws.IdiomCopy
namespace Go.Proofs.YtfbhcemlnojejaaDoor
set_option linter.unusedVariables false
set_option linter.unusedSimpArgs false
open Go Go.RowKit
open Enc (enc)
set_option linter.unusedSectionVars false
section
variable {α : Type} [Enc α]
theorem made_encs {z : Value} {z0 : α} (h : z.cells.toList = enc z0) (m : Nat) : (madeCells z.cells (m * Enc.size α)).toList = encs (List.replicate m z0) := by
  have hz : z.cells = (enc z0).toArray := by rw [← h]
  have hp := Enc.pos (α := α)
  rw [hz]
  apply List.ext_getElem?
  intro q
  by_cases hq : q < m * Enc.size α
  · have hk : q / Enc.size α < m := Nat.div_lt_of_lt_mul (by rw [Nat.mul_comm]; exact hq)
    have hi : q % Enc.size α < Enc.size α := Nat.mod_lt _ hp
    have ej : q / Enc.size α * Enc.size α + q % Enc.size α = q := by rw [Nat.mul_comm]; exact Nat.div_add_mod _ _
    have hv : (enc z0)[q % Enc.size α]? = some ((enc z0)[q % Enc.size α]'(by rw [Enc.len]; exact hi)) := List.getElem?_eq_getElem _
    have e := encs_get (List.replicate m z0) _ _ z0 _ (by rw [List.getElem?_replicate, if_pos hk]) hv
    rw [ej] at e
    rw [e]
    have hsz : (enc z0).length = Enc.size α := Enc.len z0
    simp [madeCells, hq, hsz, List.getElem!_eq_getElem?_getD, hv]
  · have h1 : (madeCells (enc z0).toArray (m * Enc.size α)).toList.length ≤ q := by simp [madeCells]; omega
    have h2 : (encs (List.replicate m z0)).length ≤ q := by rw [encs_length, List.length_replicate]; omega
    rw [List.getElem?_eq_none h1, List.getElem?_eq_none h2]
theorem putCells_head : ∀ (vs cs : List Value) (o k : Nat), k ≤ o → (putCells cs o vs).take k = cs.take k
  | [], _, _, _, _ => rfl
  | v :: vs, cs, o, k, h => by
    rw [putCells, putCells_head vs _ (o + 1) k (by omega), List.take_set_of_le h]
theorem encs_take (l : List α) (k : Nat) : (encs l).take (k * Enc.size α) = encs (l.take k) := by
  by_cases h : k ≤ l.length
  · have e : encs l = encs (l.take k) ++ encs (l.drop k) := by rw [← encs_append, List.take_append_drop]
    have hl : (encs (l.take k)).length = k * Enc.size α := by rw [encs_length, List.length_take, Nat.min_eq_left h]
    rw [e, ← hl, List.take_left]
  · rw [List.take_of_length_le (show l.length ≤ k by omega), List.take_of_length_le]
    rw [encs_length]
    exact Nat.mul_le_mul_right _ (by omega)
end
section
variable {P : Program} {n : FK} {w0 : World} {H0 H : Hp} {Q : Exit → Act → World → Prop} {env : List (Nat × Value)} {L : List Loc} {ops rest : List Oper} {α : Type} [Enc α]
/-- 'make([]T, m)'. -/
theorem X.makeSlice [Tys P] (z0 : α) (m : Nat) {d : Nat} {t e ty : TypeId} {x y : Operand} {pos : String} {after : Array Edge} {g : Option (Nat × Bool)} {k ke : TyK} {kl kc : IntKind} {i j : Int} (hn : Nat.blt d n.n = true) (hk : tyk P t = some k) (hd : k.desc = .slice e) (hke : tyk P e = some ke)
    (hx : ev env x = some (.int kl i)) (hy : ev env y = some (.int kc j)) (hi : i = m) (hj : j = m) (hz : ke.zero.cells.toList = enc z0) (hsz : ke.size = Enc.size α) (hb : ke.bytes * m ≤ 281474976710656) (h63 : m ≤ 9223372036854775807) :
    X P n w0 H0 env H L ⟨some d, .makeSlice t x y, ty, pos, after, g⟩ true (G := Nat) (fun _ => True) (fun b => (d, .slice (some ⟨b, 0, none⟩) m m) :: env) (fun _ => H) (fun b => .row (.slice (some ⟨b, 0, none⟩) m m) e ke.size m (encs (List.replicate m z0)) :: L) :=
  ⟨fun a w hf hs K Q hK => by
    obtain ⟨dd, hu, hf'⟩ := (tyk_ok hk).und
    rw [hd] at hf'
    simp only [TyD.fits] at hf'
    subst hf'
    subst hi hj
    obtain ⟨inf, hinf, e1, e2, e3⟩ := (tyk_ok hke).get
    have hb' : (inf.bytes : Int) * (m : Int) ≤ 281474976710656 := by
      have h : ((ke.bytes * m : Nat) : Int) ≤ 281474976710656 := by omega
      rw [e2]
      rwa [Int.natCast_mul] at h
    have hr := run_make (P := P) w t e inf ke.zero hu hinf e3 kl kc (m : Int) (m : Int) (by omega) (Int.le_refl _) hb' (by omega)
    simp only [Int.toNat_natCast] at hr
    have : (execOp a.eval ⟨some d, .makeSlice t x y, ty, pos, after, g⟩).run P w = .ok (.value (.slice (some ⟨w.heap.size, 0, none⟩) m m)) (w.alloc (.cells (madeCells ke.zero.cells (m * inf.size)) e)) := by
      unfold execOp
      simp only [hf.ev hx, hf.ev hy, Sem.run_bind, hr]
      rfl
    unfold Oper.wp
    rw [this]
    refine hK _ _ _ trivial (fun _ => (Below.refl _ _).alloc (Nat.le_refl _) _) (hf.put hn _) (hs.alloc (e := .row (.slice (some ⟨w.heap.size, 0, none⟩) m m) e ke.size m (encs (List.replicate m z0))) rfl ?_)
    have hm := made_encs hz m
    refine ⟨by rw [encs_length, List.length_replicate, hsz], .inr ⟨w.heap.size, m, _, rfl, hs.below.size, heap_alloc_new w _, Nat.le_refl _, h63, ?_, ?_⟩⟩
    · rw [size_madeCells, e1]
    · rw [e1, hsz, hm, List.take_of_length_le]
      rw [encs_length, List.length_replicate]
      exact Nat.le_refl _⟩
theorem set_same {i : Nat} {e : Loc} (h : L[i]? = some e) : L.set i e = L := by
  apply List.ext_getElem?
  intro j
  rw [List.getElem?_set]
  by_cases e' : i = j
  · subst e'
    rw [if_pos rfl, h, if_pos (List.getElem?_eq_some_iff.1 h).1]
  · rw [if_neg e']
theorem St.rowStores {w : World} (hs : St w0 H0 H L w) {i b m c size o : Nat} {e : TypeId} {xs vs : List Value} (hi : L[i]? = some (.row (.slice (some ⟨b, 0, none⟩) m c) e size m xs)) (ho : o + vs.length ≤ m * size) (h1 : ∀ v ∈ vs, v.oneCell' = true) : (storeCells ⟨b, o, none⟩ vs 0).run P w = .ok () (w.setCells b o vs) := by
  obtain ⟨cur, h1', h2, h3, h4, h5, h6, h7⟩ := hs.row_get (List.mem_of_getElem? hi)
  have hmc : m * size ≤ c * size := Nat.mul_le_mul_right _ h4
  have hst := run_storeCells_cells (P := P) b o vs 0 w (fun j hj => by
    have : o + 0 + j < cur.size := by omega
    simp [World.cell?, h1', this]
    omega) (fun j hj => by simp [World.frozen?, h1']) h1
  simpa using hst
/-- A row's end is cut off. -/
theorem St.cutRow {w : World} (hs : St w0 H0 H L w) {i b m c size k : Nat} {e : TypeId} {xs : List Value} (hi : L[i]? = some (.row (.slice (some ⟨b, 0, none⟩) m c) e size m xs)) (hk : k ≤ m) : St w0 H0 H (L.set i (.row (.slice (some ⟨b, 0, none⟩) k c) e size k (xs.take (k * size)))) w := by
  obtain ⟨cur, h1, h2, h3, h4, h5, h6, h7⟩ := hs.row_get (List.mem_of_getElem? hi)
  have hkm : k * size ≤ m * size := Nat.mul_le_mul_right _ hk
  refine hs.set (w' := w) hi rfl rfl (fun _ _ => rfl) rfl rfl rfl rfl ?_
  refine ⟨by rw [List.length_take, h3]; exact Nat.min_eq_left hkm, .inr ⟨b, c, cur, rfl, h2, h1, Nat.le_trans hk h4, h5, h6, ?_⟩⟩
  rw [← h7, List.take_take, Nat.min_eq_left hkm]
/-- 'copy(row, s)', both of the same length; row one of the call's own (number i of L). -/
theorem X.copyRow [Tys P] (i : Nat) (s : Slc α) {d : Nat} {t t' e ty : TypeId} {x y : Operand} {pos : String} {after : Array Edge} {g : Option (Nat × Bool)} {k ke : TyK} {b m c : Nat} {xs : List Value} (hn : Nat.blt d n.n = true) (hk : tyk P t = some k) (hd : k.desc = .slice e) (hke : tyk P e = some ke)
    (hx : ev env x = some (.slice (some ⟨b, 0, none⟩) m c)) (hi : L[i]? = some (.row (.slice (some ⟨b, 0, none⟩) m c) e ke.size m xs)) (hy : ev env y = some s.v) (hsz : ke.size = Enc.size α) (hg : s.Good H) (hm : s.len = m) :
    X P n w0 H0 env H L ⟨some d, .call { callee := .builtin .copy, args := #[x, y], argTypes := #[t, t'] }, ty, pos, after, g⟩ false (G := Unit) (fun _ => True) (fun _ => (d, intV m) :: env) (fun _ => H) (fun _ => L.set i (.row (.slice (some ⟨b, 0, none⟩) m c) e ke.size m (encs s.els))) :=
  ⟨fun a w hf hs K Q hK => by
    obtain ⟨dd, hu, hf'⟩ := (tyk_ok hk).und
    rw [hd] at hf'
    simp only [TyD.fits] at hf'
    subst hf'
    obtain ⟨inf, hinf, e1, e2, e3⟩ := (tyk_ok hke).get
    have hl : (encs s.els).length = m * ke.size := by rw [encs_length, hg.len, hsz, hm]
    obtain ⟨cur, h1', h2, h3, h4, h5, h6, h7⟩ := hs.row_get (List.mem_of_getElem? hi)
    have hst := hs.rowStores (P := P) (o := 0) (vs := encs s.els) hi (by rw [hl]; omega) (fun u hu => encs_one _ u hu)
    have hput : putCells xs 0 (encs s.els) = encs s.els := by
      rw [put_all _ _ _ [] (by rw [hl, h3]; omega) (by simp)]; rfl
    have hs2 := hs.storeRow (o := 0) (vs := encs s.els) hi (by rw [hl]; omega)
    rw [hput] at hs2
    have hrun : (Builtin.copy_ #[t, t'] ty #[.slice (some ⟨b, 0, none⟩) m c, s.v]).run P w = .ok (intV m) (w.setCells b 0 (encs s.els)) := by
      cases hA : s.A with
      | some ad =>
        have hld := run_loadCells_list (P := P) w ad (encs s.els) (fun q u hu => by
          have hq := (List.getElem?_eq_some_iff.1 hu).1
          have hpos : 0 < s.len := Nat.pos_of_ne_zero fun e => by rw [hl, ← hm, e, Nat.zero_mul] at hq; omega
          have := hg.at_ hpos
          rw [hA] at this
          rw [Option.some.inj this, Addr.add_mid]
          exact hs.sat.cell (hg.all q u hu))
        rw [hl] at hld
        have hv : s.v = .slice (some ad) m s.cap := by unfold Slc.v; rw [hA, hm]
        rw [hv]
        simp [Builtin.copy_, run_underlying hu, Builtin.lenOf, Builtin.firstCells, sizeOf, typeInfo, hinf, e1, hA, hm, hld, hst]
        rfl
      | none =>
        have hl0 : s.len = 0 := by
          rcases Nat.eq_zero_or_pos s.len with h | h
          · exact h
          · have := hg.at_ h; rw [hA] at this; cases this
        have hels : s.els = [] := List.eq_nil_of_length_eq_zero (by rw [hg.len]; exact hl0)
        have hv : s.v = .slice none 0 s.cap := by unfold Slc.v; rw [hA, hl0]
        have hm0 : m = 0 := by omega
        rw [hv, hels, encs_nil]
        subst hm0
        simp [Builtin.copy_, run_underlying hu, Builtin.lenOf, Builtin.firstCells, sizeOf, typeInfo, hinf, e1, storeCells, World.setCells]
        rfl
    have : (execOp a.eval ⟨some d, .call { callee := .builtin .copy, args := #[x, y], argTypes := #[t, t'] }, ty, pos, after, g⟩).run P w = .ok (.value (intV m)) (w.setCells b 0 (encs s.els)) := by
      unfold execOp
      simp [resolve, invoke, builtin, hf.ev hx, hf.ev hy, hrun]
    unfold Oper.wp
    rw [this]
    exact hK () _ _ trivial (fun h => by cases h) (hf.put hn _) hs2⟩
/-- 'clear(row[k:])': the row is cut off at k (what stands behind is of no use any more). -/
theorem X.clearRow [Tys P] (i k : Nat) {t e ty : TypeId} {x : Operand} {pos : String} {after : Array Edge} {g : Option (Nat × Bool)} {kk ke : TyK} {b m c j c' : Nat} {xs : List Value} {A : Option Addr} (hk : tyk P t = some kk) (hd : kk.desc = .slice e) (hke : tyk P e = some ke)
    (hx : ev env x = some (.slice A j c')) (hA : 0 < j → A = some ⟨b, k * ke.size, none⟩) (hj : k + j = m) (hz : Nat.beq ke.zero.cells.size ke.size = true) (h1 : ke.zero.cells.toList.all (·.oneCell') = true) (hi : L[i]? = some (.row (.slice (some ⟨b, 0, none⟩) m c) e ke.size m xs)) :
    X P n w0 H0 env H L ⟨none, .call { callee := .builtin .clear, args := #[x], argTypes := #[t] }, ty, pos, after, g⟩ false (G := Unit) (fun _ => True) (fun _ => env) (fun _ => H) (fun _ => L.set i (.row (.slice (some ⟨b, 0, none⟩) k c) e ke.size k (xs.take (k * ke.size)))) :=
  ⟨fun a w hf hs K Q hK => by
    obtain ⟨dd, hu, hf'⟩ := (tyk_ok hk).und
    rw [hd] at hf'
    simp only [TyD.fits] at hf'
    subst hf'
    have hz' := Nat.eq_of_beq_eq_true hz
    have hlen : (Builtin.zeroCells ke.zero.cells j).toList.length = j * ke.size := by simp [Builtin.zeroCells, hz']
    have key : ∃ w', (Builtin.clear_ #[t] ty #[.slice A j c']).run P w = .ok (.tuple #[]) w' ∧ St w0 H0 H (L.set i (.row (.slice (some ⟨b, 0, none⟩) k c) e ke.size k (xs.take (k * ke.size)))) w' := by
      rcases Nat.eq_zero_or_pos j with h0 | h0
      · subst h0
        refine ⟨w, by cases A <;> simp [Builtin.clear_, run_underlying hu], hs.cutRow hi (by omega)⟩
      · have hA' := hA h0
        subst hA'
        have hfit : k * ke.size + (Builtin.zeroCells ke.zero.cells j).toList.length ≤ m * ke.size := by rw [hlen, ← Nat.add_mul, hj]; exact Nat.le_refl _
        have hone : ∀ v ∈ (Builtin.zeroCells ke.zero.cells j).toList, v.oneCell' = true := by
          intro v hv
          simp only [Builtin.zeroCells, Array.toList_map, List.mem_map] at hv
          obtain ⟨q, hq, rfl⟩ := hv
          have hq' : q < j * ke.zero.cells.size := by simpa using hq
          have hpos : 0 < ke.zero.cells.size := Nat.pos_of_ne_zero fun e => by rw [e] at hq'; simp at hq'
          have hlt := Nat.mod_lt q hpos
          rw [getElem!_pos ke.zero.cells _ hlt]
          exact List.all_eq_true.1 h1 _ (by simp)
        have hst := hs.rowStores (P := P) hi hfit hone
        have hs2 := hs.storeRow hi hfit
        have hs3 := hs2.cutRow (i := i) (k := k) (by rw [List.getElem?_set_self (List.getElem?_eq_some_iff.1 hi).1]) (by omega)
        rw [putCells_head _ _ _ _ (Nat.le_refl _), List.set_set] at hs3
        refine ⟨_, ?_, hs3⟩
        obtain ⟨j', rfl⟩ : ∃ j', j = j' + 1 := ⟨j - 1, by omega⟩
        simp [Builtin.clear_, run_underlying hu, (tyk_ok hke).zeroRun w, hst]
    obtain ⟨w', hrun, hs'⟩ := key
    have : (execOp a.eval ⟨none, .call { callee := .builtin .clear, args := #[x], argTypes := #[t] }, ty, pos, after, g⟩).run P w = .ok (.value (.tuple #[])) w' := by
      unfold execOp
      simp [resolve, invoke, builtin, hf.ev hx, hrun]
    unfold Oper.wp
    rw [this]
    exact hK () _ _ trivial (fun h => by cases h) (hf.put_none _) hs'⟩
end
section
variable {P : Program} {n : FK} {w0 : World} {H0 H : Hp} {Q : Exit → Act → World → Prop} {env : List (Nat × Value)} {L : List Loc} {ops rest : List Oper} {α : Type} [Enc α]
theorem perm_of {α : Type} : ∀ {l : List α} {i : Nat} {x : α}, l[i]? = some x → l.Perm (x :: l.eraseIdx i)
  | [], i, x, h => by simp at h
  | a :: l, 0, x, h => by
    simp at h; subst h; exact List.Perm.refl _
  | a :: l, i + 1, x, h => by
    have h' : l[i]? = some x := by simpa using h
    exact ((perm_of h').cons a).trans (List.Perm.swap x a _)
/-- A block, or a row, of the call's own, that is not written any more. -/
theorem TL.frzRow (i : Nat) {v : Value} {e : TypeId} {size m : Nat} {els : List α} (hi : L[i]? = some (.row v e size m (encs els))) (hsz : size = Enc.size α) (hm : els.length = m) (hg : ∀ x ∈ els, Enc.good H x) (h : ∀ (H' : Hp) (s : Slc α), s.v = v → s.els = els → s.Good H' → H.le H' → TL P n w0 H0 ops Q rest env H' (L.eraseIdx i)) : TL P n w0 H0 ops Q rest env H L :=
  TL.perm _ (perm_of hi) (TL.freezeRow hsz hm hg h)
theorem T.frzRow {c : Code} (i : Nat) {v : Value} {e : TypeId} {size m : Nat} {els : List α} (hi : L[i]? = some (.row v e size m (encs els))) (hsz : size = Enc.size α) (hm : els.length = m) (hg : ∀ x ∈ els, Enc.good H x) (h : ∀ (H' : Hp) (s : Slc α), s.v = v → s.els = els → s.Good H' → H.le H' → T P n w0 H0 c Q env H' (L.eraseIdx i)) : T P n w0 H0 c Q env H L :=
  T.perm _ (perm_of hi) (T.freezeRow hsz hm hg h)
theorem St.frzBlk {w : World} {b m : Nat} {e : TypeId} {els : List α} (hs : St w0 H0 H (.blk b e (encs els) :: L) w) (hm : els.length = m) (hb : m ≤ maxLen) (hg : ∀ x ∈ els, Enc.good H x) : ∃ H' : Hp, (⟨some ⟨b, 0, none⟩, m, m, els⟩ : Slc α).Good H' ∧ H.le H' ∧ St w0 H0 H' L w := by
  have hl : (encs els).length = m * Enc.size α := by rw [encs_length, hm]
  have h1 := hs.blkRow (i := 0) (m := m) (size := Enc.size α) rfl hl hb
  obtain ⟨H', s, e1, e2, e3, e4, e5⟩ := St.freezeRow (α := α) h1 rfl hm hg
  obtain ⟨A, l, c, els'⟩ := s
  simp only [Slc.v, Value.slice.injEq] at e1
  simp only at e2
  obtain ⟨rfl, rfl, rfl⟩ := e1
  subst e2
  exact ⟨H', e3, e4, e5⟩
theorem TL.frzBlk (i : Nat) {b m : Nat} {e : TypeId} {cs : List Value} {els : List α} (hi : L[i]? = some (.blk b e cs)) (hcs : cs = encs els) (hm : els.length = m) (hb : m ≤ maxLen) (hg : ∀ x ∈ els, Enc.good H x) (h : ∀ (H' : Hp), (⟨some ⟨b, 0, none⟩, m, m, els⟩ : Slc α).Good H' → H.le H' → TL P n w0 H0 ops Q rest env H' (L.eraseIdx i)) : TL P n w0 H0 ops Q rest env H L := by
  subst hcs
  refine TL.perm _ (perm_of hi) ⟨fun a w hf hs => ?_⟩
  obtain ⟨H', e3, e4, e5⟩ := hs.frzBlk hm hb hg
  exact (h H' e3 e4).out a w hf e5
theorem T.frzBlk {c : Code} (i : Nat) {b m : Nat} {e : TypeId} {cs : List Value} {els : List α} (hi : L[i]? = some (.blk b e cs)) (hcs : cs = encs els) (hm : els.length = m) (hb : m ≤ maxLen) (hg : ∀ x ∈ els, Enc.good H x) (h : ∀ (H' : Hp), (⟨some ⟨b, 0, none⟩, m, m, els⟩ : Slc α).Good H' → H.le H' → T P n w0 H0 c Q env H' (L.eraseIdx i)) : T P n w0 H0 c Q env H L := by
  subst hcs
  refine T.perm _ (perm_of hi) ⟨fun a w hf hs => ?_⟩
  obtain ⟨H', e3, e4, e5⟩ := hs.frzBlk hm hb hg
  exact (h H' e3 e4).out a w hf e5
theorem encs_rowat {l : List α} {k o : Nat} {x : α} (hk : l[k]? = some x) (ho : o = k * Enc.size α) : ((encs l).drop o).take (Enc.size α) = enc x := by
  subst ho
  have hlt := (List.getElem?_eq_some_iff.1 hk).1
  have hx : l[k] = x := (List.getElem?_eq_some_iff.1 hk).2
  have e1 : l = l.take k ++ ([x] ++ l.drop (k + 1)) := by rw [← hx]; simp
  have hl : (encs (l.take k)).length = k * Enc.size α := by rw [encs_length, List.length_take, Nat.min_eq_left (by omega)]
  have s1 : encs [x] = enc x := by simp [encs]
  conv => lhs; rw [e1]
  rw [encs_append, encs_append, s1, ← hl, List.drop_left, ← Enc.len x, List.take_left]
theorem drop_at {b m c i size : Nat} (h : 0 < m - i) (hc : m ≤ c) : (if c = i then (some ⟨b, 0, none⟩ : Option Addr) else (some (⟨b, 0, none⟩ : Addr)).map (·.add (i * size))) = some ⟨b, i * size, none⟩ := by
  rw [if_neg (by omega)]
  simp only [Option.map_some, Addr.add]
  by_cases h0 : i * size = 0
  · rw [if_pos h0, h0]
  · rw [if_neg h0, Nat.zero_add]
end
end Go.Proofs.YtfbhcemlnojejaaDoor
namespace Go.Proofs.YtfbhcemlnojejaaDoor
set_option linter.unusedVariables false
set_option linter.unusedSimpArgs false
open Go Go.RowKit
open Enc (enc)
set_option linter.unusedSectionVars false
section
variable {P : Program} {n : FK} {S : World → Prop} {env : List (Nat × Value)}
/-- 's[lo:hi:mx]'. -/
theorem V.slice3 [Tys P] (lo hi mx : Nat) {t e : TypeId} {x y z u : Operand} {A : Option Addr} {m c : Nat} {i j l : Int} {k ke : TyK} {q r p : IntKind} (hk : tyk P t = some k) (hd : k.desc = .slice e) (hke : tyk P e = some ke) (hx : ev env x = some (.slice A m c)) (hy : ev env y = some (.int q i)) (hz : ev env z = some (.int r j)) (hu : ev env u = some (.int p l)) (h1 : i = lo) (h2 : j = hi) (h3 : l = mx) (h4 : lo ≤ hi) (h5 : hi ≤ mx) (h6 : mx ≤ c) :
    V P n S env (.slice t x (some y) (some z) (some u)) (.slice (if mx = lo then A else A.map (·.add (lo * ke.size))) (hi - lo) (mx - lo)) :=
  ⟨fun o a w ho hf _ => by
    obtain ⟨d, hu', hf'⟩ := (tyk_ok hk).und
    rw [hd] at hf'
    simp only [TyD.fits] at hf'
    subst hf'
    have b1 := run_bound (P := P) (w := w) (k := p) (i := l) (j := mx) (y := c) (c := .slice3Acap) h3 h6
    have b2 := run_bound (P := P) (w := w) (k := r) (i := j) (j := hi) (y := mx) (c := .slice3B) h2 h5
    have b3 := run_bound (P := P) (w := w) (k := q) (i := i) (j := lo) (y := hi) (c := .slice3C) h1 h4
    unfold execOp; rw [ho]
    simp [hf.ev hx, hf.ev hy, hf.ev hz, hf.ev hu, Instr.sliceAt, Instr.slice, Instr.sliceBounds, run_underlying hu', b1, b2, b3, (tyk_ok hke).sizeOf w]⟩
/-- 's[lo:hi]'. -/
theorem V.slice2 [Tys P] (lo hi : Nat) {t e : TypeId} {x y z : Operand} {A : Option Addr} {m c : Nat} {i j : Int} {k ke : TyK} {q r : IntKind} (hk : tyk P t = some k) (hd : k.desc = .slice e) (hke : tyk P e = some ke) (hx : ev env x = some (.slice A m c)) (hy : ev env y = some (.int q i)) (hz : ev env z = some (.int r j)) (h1 : i = lo) (h2 : j = hi) (h4 : lo ≤ hi) (h5 : hi ≤ c) :
    V P n S env (.slice t x (some y) (some z) none) (.slice (if c = lo then A else A.map (·.add (lo * ke.size))) (hi - lo) (c - lo)) :=
  ⟨fun o a w ho hf _ => by
    obtain ⟨d, hu', hf'⟩ := (tyk_ok hk).und
    rw [hd] at hf'
    simp only [TyD.fits] at hf'
    subst hf'
    have b2 := run_bound (P := P) (w := w) (k := r) (i := j) (j := hi) (y := c) (c := .sliceAcap) h2 h5
    have b3 := run_bound (P := P) (w := w) (k := q) (i := i) (j := lo) (y := hi) (c := .sliceB) h1 h4
    unfold execOp; rw [ho]
    simp [hf.ev hx, hf.ev hy, hf.ev hz, Instr.sliceAt, Instr.slice, Instr.sliceBounds, run_underlying hu', b2, b3, (tyk_ok hke).sizeOf w]⟩
/-- 's[lo:]'. -/
theorem V.slice1 [Tys P] (lo : Nat) {t e : TypeId} {x y : Operand} {A : Option Addr} {m c : Nat} {i : Int} {k ke : TyK} {q : IntKind} (hk : tyk P t = some k) (hd : k.desc = .slice e) (hke : tyk P e = some ke) (hx : ev env x = some (.slice A m c)) (hy : ev env y = some (.int q i)) (h1 : i = lo) (h4 : lo ≤ m) :
    V P n S env (.slice t x (some y) none none) (.slice (if c = lo then A else A.map (·.add (lo * ke.size))) (m - lo) (c - lo)) :=
  ⟨fun o a w ho hf _ => by
    obtain ⟨d, hu', hf'⟩ := (tyk_ok hk).und
    rw [hd] at hf'
    simp only [TyD.fits] at hf'
    subst hf'
    have b3 := run_bound (P := P) (w := w) (k := q) (i := i) (j := lo) (y := m) (c := .sliceB) h1 h4
    unfold execOp; rw [ho]
    simp [hf.ev hx, hf.ev hy, Instr.sliceAt, Instr.slice, Instr.sliceBounds, run_underlying hu', b3, (tyk_ok hke).sizeOf w]⟩
/-- 's[:hi]'. -/
theorem V.slice0 [Tys P] (hi : Nat) {t e : TypeId} {x y : Operand} {b m c : Nat} {i : Int} {k ke : TyK} {q : IntKind} (hk : tyk P t = some k) (hd : k.desc = .slice e) (hke : tyk P e = some ke) (hx : ev env x = some (.slice (some ⟨b, 0, none⟩) m c)) (hy : ev env y = some (.int q i)) (h1 : i = hi) (h4 : hi ≤ c) :
    V P n S env (.slice t x none (some y) none) (.slice (some ⟨b, 0, none⟩) hi c) :=
  ⟨fun o a w ho hf _ => by
    obtain ⟨d, hu', hf'⟩ := (tyk_ok hk).und
    rw [hd] at hf'
    simp only [TyD.fits] at hf'
    subst hf'
    have b3 := run_bound (P := P) (w := w) (k := q) (i := i) (j := hi) (y := c) (c := .sliceAcap) h1 h4
    unfold execOp; rw [ho]
    simp [hf.ev hx, hf.ev hy, Instr.sliceAt, Instr.slice, Instr.sliceBounds, run_underlying hu', b3, (tyk_ok hke).sizeOf w, Addr.add]⟩
end
section
variable {P : Program} {n : FK} {w0 : World} {H0 H : Hp} {Q : Exit → Act → World → Prop} {env : List (Nat × Value)} {L : List Loc} {ops rest : List Oper} {α : Type} [Enc α]
theorem at_some {b c lo size : Nat} : ∃ a, (if c = lo then (some ⟨b, 0, none⟩ : Option Addr) else (some (⟨b, 0, none⟩ : Addr)).map (·.add (lo * size))) = some a := by
  by_cases h : c = lo
  · exact ⟨_, if_pos h⟩
  · exact ⟨_, if_neg h⟩
/-- 'append(row[:k], row[o:]...)': it fits. -/
theorem X.appendSelf [Tys P] (i k j o : Nat) {d : Nat} {t e ty : TypeId} {x y : Operand} {pos : String} {after : Array Edge} {g : Option (Nat × Bool)} {kk ke : TyK} {b m c c' : Nat} {xs news : List Value} {A : Option Addr} (hn : Nat.blt d n.n = true) (hk : tyk P t = some kk) (hd : kk.desc = .slice e) (hke : tyk P e = some ke)
    (hx : ev env x = some (.slice (some ⟨b, 0, none⟩) k c)) (hy : ev env y = some (.slice A j c')) (hi : L[i]? = some (.row (.slice (some ⟨b, 0, none⟩) m c) e ke.size m xs)) (hA : ∃ a, A = some a) (hA2 : 0 < j → A = some ⟨b, o * ke.size, none⟩) (hkj : k + j ≤ m) (ho : o + j = m) (hnews : (xs.drop (o * ke.size)) = news) (h1 : ∀ v ∈ xs, v.oneCell' = true) :
    X P n w0 H0 env H L ⟨some d, .call { callee := .builtin .append, args := #[x, y], argTypes := #[t, t] }, ty, pos, after, g⟩ false (G := Unit) (fun _ => True) (fun _ => (d, .slice (some ⟨b, 0, none⟩) (k + j) c) :: env) (fun _ => H) (fun _ => L.set i (.row (.slice (some ⟨b, 0, none⟩) (k + j) c) e ke.size (k + j) (xs.take (k * ke.size) ++ news))) :=
  ⟨fun a w hf hs K Q hK => by
    subst hnews
    obtain ⟨dd, hu, hf'⟩ := (tyk_ok hk).und
    rw [hd] at hf'
    simp only [TyD.fits] at hf'
    subst hf'
    obtain ⟨inf, hinf, e1, e2, e3⟩ := (tyk_ok hke).get
    obtain ⟨cur, c1, c2, c3, c4, c5, c6, c7⟩ := hs.row_get (List.mem_of_getElem? hi)
    have hcut := hs.cutRow (k := k) hi (by omega)
    have hil := (List.getElem?_eq_some_iff.1 hi).1
    have hi' : (L.set i (.row (.slice (some ⟨b, 0, none⟩) k c) e ke.size k (xs.take (k * ke.size))))[i]? = some (.row (.slice (some ⟨b, 0, none⟩) k c) e ke.size k (xs.take (k * ke.size))) := List.getElem?_set_self hil
    have hown := hcut.ok _ (List.mem_of_getElem? hi')
    obtain ⟨ad, hA⟩ := hA
    subst hA
    have hl : (xs.drop (o * ke.size)).length = j * ke.size := by
      rw [List.length_drop, c3, ← ho, Nat.add_mul]; omega
    obtain ⟨w', hrun, hown', hgr⟩ := run_append_fits (P := P) w w0.heap.size t ty e inf ke.size hu hinf e1 b k c _ hown ad j c' (xs.drop (o * ke.size)) hl (fun q u hq => by
      have hq' := (List.getElem?_eq_some_iff.1 hq).1
      have hpos : 0 < j := Nat.pos_of_ne_zero fun e => by rw [hl, e, Nat.zero_mul] at hq'; omega
      have := hA2 hpos
      rw [Option.some.inj this, Addr.add_mid]
      rw [List.getElem?_drop] at hq
      exact hs.row_cell (List.mem_of_getElem? hi) hq) (fun u hu' => h1 u (List.mem_of_mem_drop hu')) (Nat.le_trans hkj c4)
    have hs' := hcut.turn (e' := .row (.slice (some ⟨b, 0, none⟩) (k + j) c) e ke.size (k + j) (xs.take (k * ke.size) ++ xs.drop (o * ke.size))) hi' (by simpa [Loc.at, Value.ownBlock] using hgr) (.inl rfl) hown'
    rw [List.set_set] at hs'
    unfold Oper.wp
    rw [run_appendOp (v := .slice (some ⟨b, 0, none⟩) k c) (u := .slice (some ad) j c') rfl (hf.ev hx) (hf.ev hy) hrun]
    exact hK () _ _ trivial (fun h => by cases h) (hf.put hn _) hs'⟩
theorem setCells_same (b : Nat) : ∀ (vs : List Value) (o : Nat) (w : World), (w.setCells b o vs).heap.size = w.heap.size ∧ (w.setCells b o vs).os = w.os ∧ (w.setCells b o vs).tape = w.tape ∧ (w.setCells b o vs).output = w.output
  | [], _, _ => ⟨rfl, rfl, rfl, rfl⟩
  | v :: vs, o, w => by
    rw [World.setCells]
    obtain ⟨h1, h2, h3, h4⟩ := setCells_same b vs (o + 1) (w.setCell ⟨b, o, none⟩ v)
    exact ⟨h1.trans (by simp [World.setCell]), h2, h3, h4⟩
/-- What lies behind the row is cleared: the row stays as it is. -/
theorem X.clearTail [Tys P] (i o : Nat) {t e ty : TypeId} {x : Operand} {pos : String} {after : Array Edge} {g : Option (Nat × Bool)} {kk ke : TyK} {b m c j c' : Nat} {xs : List Value} {A : Option Addr} (hk : tyk P t = some kk) (hd : kk.desc = .slice e) (hke : tyk P e = some ke)
    (hx : ev env x = some (.slice A j c')) (hA : 0 < j → A = some ⟨b, o * ke.size, none⟩) (hmo : m ≤ o) (hoc : o + j ≤ c) (hz : Nat.beq ke.zero.cells.size ke.size = true) (h1 : ke.zero.cells.toList.all (·.oneCell') = true) (hi : L[i]? = some (.row (.slice (some ⟨b, 0, none⟩) m c) e ke.size m xs)) :
    X P n w0 H0 env H L ⟨none, .call { callee := .builtin .clear, args := #[x], argTypes := #[t] }, ty, pos, after, g⟩ false (G := Unit) (fun _ => True) (fun _ => env) (fun _ => H) (fun _ => L) :=
  ⟨fun a w hf hs K Q hK => by
    obtain ⟨dd, hu, hf'⟩ := (tyk_ok hk).und
    rw [hd] at hf'
    simp only [TyD.fits] at hf'
    subst hf'
    have hz' := Nat.eq_of_beq_eq_true hz
    have hlen : (Builtin.zeroCells ke.zero.cells j).toList.length = j * ke.size := by simp [Builtin.zeroCells, hz']
    have key : ∃ w', (Builtin.clear_ #[t] ty #[.slice A j c']).run P w = .ok (.tuple #[]) w' ∧ St w0 H0 H L w' := by
      rcases Nat.eq_zero_or_pos j with h0 | h0
      · subst h0
        exact ⟨w, by cases A <;> simp [Builtin.clear_, run_underlying hu], hs⟩
      · have hA' := hA h0
        subst hA'
        obtain ⟨cur, c1, c2, c3, c4, c5, c6, c7⟩ := hs.row_get (List.mem_of_getElem? hi)
        have hfit : o * ke.size + (Builtin.zeroCells ke.zero.cells j).toList.length ≤ cur.toList.length := by
          rw [hlen, ← Nat.add_mul, Array.length_toList, c6]; exact Nat.mul_le_mul_right _ hoc
        have hone : ∀ v ∈ (Builtin.zeroCells ke.zero.cells j).toList, v.oneCell' = true := by
          intro v hv
          simp only [Builtin.zeroCells, Array.toList_map, List.mem_map] at hv
          obtain ⟨q, hq, rfl⟩ := hv
          have hq' : q < j * ke.zero.cells.size := by simpa using hq
          have hpos : 0 < ke.zero.cells.size := Nat.pos_of_ne_zero fun e => by rw [e] at hq'; simp at hq'
          have hlt := Nat.mod_lt q hpos
          rw [getElem!_pos ke.zero.cells _ hlt]
          exact List.all_eq_true.1 h1 _ (by simp)
        have hst := run_storeCells_cells (P := P) b (o * ke.size) (Builtin.zeroCells ke.zero.cells j).toList 0 w (fun q hq => by
          have : o * ke.size + 0 + q < cur.size := by
            have := Array.length_toList (xs := cur)
            omega
          simp [World.cell?, c1]
          omega) (fun q hq => by simp [World.frozen?, c1]) hone
        rw [Nat.add_zero] at hst
        have hcs : w.heap[b]? = some (.cells cur.toList.toArray e (0, 0)) := by simpa using c1
        have hnew := setCells_blk b e (Builtin.zeroCells ke.zero.cells j).toList (o * ke.size) w cur.toList hcs hfit
        obtain ⟨k1, k2, k3, k4⟩ := setCells_same b (Builtin.zeroCells ke.zero.cells j).toList (o * ke.size) w
        have hs' : St w0 H0 H (L.set i (.row (.slice (some ⟨b, 0, none⟩) m c) e ke.size m xs)) (w.setCells b (o * ke.size) (Builtin.zeroCells ke.zero.cells j).toList) := by
          refine hs.set hi rfl rfl (fun k hk => heap_setCells b _ _ w k hk) k1 k2 k3 k4 ?_
          refine ⟨c3, .inr ⟨b, c, _, rfl, c2, hnew, c4, c5, by simp [putCells_length, c6], ?_⟩⟩
          rw [List.toList_toArray, putCells_head _ _ _ _ (Nat.mul_le_mul_right _ hmo), c7]
        rw [set_same hi] at hs'
        refine ⟨_, ?_, hs'⟩
        obtain ⟨j', rfl⟩ : ∃ j', j = j' + 1 := ⟨j - 1, by omega⟩
        simp [Builtin.clear_, run_underlying hu, (tyk_ok hke).zeroRun w, hst]
    obtain ⟨w', hrun, hs'⟩ := key
    have : (execOp a.eval ⟨none, .call { callee := .builtin .clear, args := #[x], argTypes := #[t] }, ty, pos, after, g⟩).run P w = .ok (.value (.tuple #[])) w' := by
      unfold execOp
      simp [resolve, invoke, builtin, hf.ev hx, hrun]
    unfold Oper.wp
    rw [this]
    exact hK () _ _ trivial (fun h => by cases h) (hf.put_none _) hs'⟩
theorem encs_drop (l : List α) (k : Nat) : (encs l).drop (k * Enc.size α) = encs (l.drop k) := by
  by_cases h : k ≤ l.length
  · have e : encs l = encs (l.take k) ++ encs (l.drop k) := by rw [← encs_append, List.take_append_drop]
    have hl : (encs (l.take k)).length = k * Enc.size α := by rw [encs_length, List.length_take, Nat.min_eq_left h]
    rw [e, ← hl, List.drop_left]
  · rw [List.drop_of_length_le (show l.length ≤ k by omega), List.drop_of_length_le]
    · rfl
    · rw [encs_length]
      exact Nat.mul_le_mul_right _ (by omega)
end
end Go.Proofs.YtfbhcemlnojejaaDoor
