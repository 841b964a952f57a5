/-
  The engine: literals of structs and slices; rows that the call appends to; what a call's own becomes when nobody writes it any more.
-/
import Derived.Test.YtfbhcemlnojejaaDoorEngS
namespace Go.Proofs.YtfbhcemlnojejaaDoor
set_option linter.unusedVariables false
set_option linter.unusedSimpArgs false
open Go Go.RowKit
open Enc (enc)

/-! ### literals -/
theorem foldl_put (off : Nat) : ∀ (l : List Value) (k : Nat) (cs : Array Value), (l.zipIdx k).foldl (fun (cs : Array Value) (p : Value × Nat) => cs.setIfInBounds (off + p.2) p.1) cs = (putCells cs.toList (off + k) l).toArray
  | [], k, cs => by simp [putCells]
  | v :: l, k, cs => by
    simp only [List.zipIdx_cons, List.foldl_cons]
    rw [foldl_put off l (k + 1)]
    simp [putCells, Nat.add_assoc]
theorem put_length : ∀ (vs cs : List Value) (o : Nat), (putCells cs o vs).length = cs.length
  | [], _, _ => rfl
  | v :: vs, cs, o => by rw [putCells, put_length vs]; simp
/-- The cells of a literal: 'place i' tells where part i goes, and how many cells it has. -/
def fillL (place : Nat → Option (Nat × Nat)) : List Value → List (Nat × Value) → Option (List Value)
  | cs, [] => some cs
  | cs, (i, v) :: r =>
    match place i with
    | none => none
    | some (off, size) => bif Nat.beq v.cells.toList.length size && Nat.ble (off + size) cs.length then fillL place (putCells cs off v.cells.toList) r else none
theorem fill_eq (place : Nat → Option (Nat × Nat)) : ∀ (ps : List (Nat × Value)) (cs : List Value) (out : List Value), fillL place cs ps = some out → Instr.fill place cs.toArray ps = some out.toArray
  | [], cs, out, h => by simp [fillL] at h; simp [Instr.fill, h]
  | (i, v) :: r, cs, out, h => by
    simp only [fillL] at h
    unfold Instr.fill
    cases hp : place i with
    | none => rw [hp] at h; cases h
    | some p =>
      obtain ⟨off, size⟩ := p
      rw [hp] at h
      simp only at h ⊢
      cases hb : (Nat.beq v.cells.toList.length size && Nat.ble (off + size) cs.length) with
      | false => rw [hb] at h; cases h
      | true =>
        rw [hb] at h
        simp only [Bool.and_eq_true] at hb
        have h1 := Nat.eq_of_beq_eq_true hb.1
        have h2 := Nat.le_of_ble_eq_true hb.2
        rw [Array.length_toList] at h1
        rw [if_neg (by simp [h1]; omega)]
        rw [← fill_eq place r _ out h]
        congr 1
        rw [← Array.foldl_toList, Array.toList_zipIdx, foldl_put off _ 0]
        simp
def evp (env : List (Nat × Value)) : List (Nat × Operand) → Option (List (Nat × Value))
  | [] => some []
  | (i, x) :: r =>
    match ev env x, evp env r with
    | some v, some l => some ((i, v) :: l)
    | _, _ => none
section
variable {P : Program} {n : FK} {w0 : World} {H0 H : Hp} {S : World → Prop} {env : List (Nat × Value)} {L : List Loc}
theorem Fr.evp {a : Act} (h : Fr n env a) : ∀ {xs : List (Nat × Operand)} {vs : List (Nat × Value)}, evp env xs = some vs → xs.map (fun p => (p.1, a.eval p.2)) = vs
  | [], vs, hx => by simp [Go.Proofs.YtfbhcemlnojejaaDoor.evp] at hx; simp [hx]
  | (i, x) :: r, vs, hx => by
    simp only [Go.Proofs.YtfbhcemlnojejaaDoor.evp] at hx
    cases h1 : Go.Proofs.YtfbhcemlnojejaaDoor.ev env x with
    | none => rw [h1] at hx; cases hx
    | some v =>
      cases h2 : Go.Proofs.YtfbhcemlnojejaaDoor.evp env r with
      | none => rw [h1, h2] at hx; cases hx
      | some l =>
        rw [h1, h2] at hx
        simp at hx
        subst hx
        simp [h.ev h1, h.evp h2]
def placeF (fs : List (Nat × Nat × TypeId)) (i : Nat) : Option (Nat × Nat) := (fs[i]?).map fun f => (f.1, f.2.1)
theorem TyOk.zeroRun {t : TypeId} {k : TyK} (h : TyOk P t k) (w : World) : (zeroValue t).run P w = .ok k.zero w := by
  obtain ⟨i, hi, _, _, hz⟩ := h.get
  simp [zeroValue, typeInfo, hi, hz]
/-- The places of a struct's fields, as the model reckons them. -/
theorem run_places {fields : List Field} (hc : ∀ f ∈ fields, P.cellsOf f.type ≠ 0) (w : World) :
    ∀ (acc : Array (Nat × Nat)), (List.foldlM (fun (acc : Array (Nat × Nat)) (f : Field) => do let b ← (do pure (f.offset, ← sizeOf f.type) : Sem (Nat × Nat)); pure (acc.push b)) acc fields).run P w = .ok (acc ++ (fields.map fun f => (f.offset, P.cellsOf f.type)).toArray) w := by
  induction fields with
  | nil => intro acc; simp
  | cons f fs ih =>
    intro acc
    rw [List.foldlM_cons]
    have h1 := sizeOf_of_cells (P := P) (t := f.type) rfl (hc f (by simp)) w
    simp only [Sem.run_bind, h1, Result.andThen_ok, Sem.run_pure]
    rw [ih (fun g hg => hc g (by simp [hg]))]
    simp
/-- A struct's literal. -/
theorem V.build [Tys P] {t : TypeId} {parts : Array (Nat × Operand)} {k : TyK} {fs : List (Nat × Nat × TypeId)} {ps : List (Nat × Value)} {zs cs : List Value} (hk : tyk P t = some k) (hd : k.desc = .struct fs) (hn0 : fs.all (fun f => !Nat.beq f.2.1 0) = true)
    (hp : evp env parts.toList = some ps) (hz : k.zero.cells = zs.toArray) (hf : fillL (placeF fs) zs ps = some cs) : V P n S env (.build t parts) (.agg cs.toArray) :=
  ⟨fun o a w ho hfr _ => by
    obtain ⟨d, hu, hf'⟩ := (tyk_ok hk).und
    rw [hd] at hf'
    obtain ⟨fields, rfl, hmap⟩ := hf'
    have hparts : parts.map (fun (p : Nat × Operand) => (p.1, a.eval p.2)) = ps.toArray := by
      apply Array.toList_inj.1
      simpa using hfr.evp hp
    have hc : ∀ f ∈ fields.toList, P.cellsOf f.type ≠ 0 := fun f hf0 e => by
      have : (f.offset, P.cellsOf f.type, f.type) ∈ fs := by rw [← hmap]; exact List.mem_map_of_mem hf0
      have := List.all_eq_true.1 hn0 _ this
      rw [e] at this
      simp at this
    have hpl : (fields.mapM fun f => (do pure (f.offset, ← sizeOf f.type) : Sem (Nat × Nat))).run P w = .ok (fields.toList.map fun f => (f.offset, P.cellsOf f.type)).toArray w := by
      rw [Array.mapM_eq_foldlM, ← Array.foldlM_toList]
      have := run_places (P := P) hc w #[]
      simpa using this
    have hplace : (fun i => ((fields.toList.map fun f => (f.offset, P.cellsOf f.type)).toArray)[i]?) = placeF fs := by
      funext i
      unfold placeF
      rw [← hmap]
      simp only [List.getElem?_toArray, List.getElem?_map, Option.map_map]
      cases fields.toList[i]? <;> rfl
    have hfill : Instr.fill (fun i => ((fields.toList.map fun f => (f.offset, P.cellsOf f.type)).toArray)[i]?) zs.toArray ps = some cs.toArray := by
      rw [hplace]; exact fill_eq _ ps zs cs hf
    unfold execOp; rw [ho]
    simp only [Instr.build, Sem.run_bind, (tyk_ok hk).zeroRun w, Result.andThen_ok, run_underlying hu, hpl, hz, hparts]
    rw [hfill]
    rfl⟩

/-! ### slices' literals -/
theorem zeros_len (len size : Nat) (z : Array Value) : ((Array.range (len * size)).map (fun i => z[i % z.size]!)).toList.length = len * size := by simp
theorem put_all : ∀ (vs cs : List Value) (o : Nat) (pre : List Value), cs.length = o + vs.length → cs.take o = pre → putCells cs o vs = pre ++ vs
  | [], cs, o, pre, hl, hp => by
    simp only [putCells, List.append_nil]
    rw [← hp, List.take_of_length_le (by simp at hl; omega)]
  | v :: vs, cs, o, pre, hl, hp => by
    simp only [List.length_cons] at hl
    rw [putCells, put_all vs (cs.set o v) (o + 1) (pre ++ [v]) (by simp; omega) ?_]
    · simp
    · rw [List.take_succ_eq_append_getElem (by simp; omega), List.take_set_of_le (Nat.le_refl _), hp]
      simp
theorem St.newRow {w : World} (hs : St w0 H0 H L w) (e : TypeId) (cs : List Value) : St w0 H0 H (.blk w.heap.size e cs :: L) (w.alloc (.cells cs.toArray e)) := hs.blk e cs
/-- '[]T{x}'. -/
theorem X.buildSlice1 [Tys P] {d : Nat} {t e ty : TypeId} {x : Operand} {pos : String} {after : Array Edge} {g : Option (Nat × Bool)} {k ke : TyK} {v : Value} {cs : List Value} (hn : Nat.blt d n.n = true) (hk : tyk P t = some k) (hd : k.desc = .slice e) (hke : tyk P e = some ke) (hx : ev env x = some v) (hv : v.cells = cs.toArray) (hl : cs.length = ke.size)
    (hsm : Nat.ble ke.size 16777216 = true) :
    X P n w0 H0 env H L ⟨some d, .buildSlice t 1 #[(0, x)], ty, pos, after, g⟩ true (G := Nat) (fun _ => True) (fun b => (d, .slice (some ⟨b, 0, none⟩) 1 1) :: env) (fun _ => H) (fun b => .blk b e cs :: L) :=
  ⟨fun a w hf hs K Q hK => by
    obtain ⟨dd, hu, hf'⟩ := (tyk_ok hk).und
    rw [hd] at hf'
    simp only [TyD.fits] at hf'
    subst hf'
    have hsm' := Nat.le_of_ble_eq_true hsm
    unfold Oper.wp
    have hfill : ∀ (zs : Array Value), zs.size = ke.size → Instr.fill (fun i => some (i * ke.size, ke.size)) zs [(0, v)] = some cs.toArray := by
      intro zs hz
      have hz' : zs = zs.toList.toArray := by simp
      rw [hz']
      apply fill_eq
      simp only [fillL, hv, Nat.zero_mul]
      rw [show (Nat.beq cs.length ke.size && Nat.ble (0 + ke.size) zs.toList.length) = true by simp [hl, hz]]
      simp only [cond_true]
      rw [put_all cs zs.toList 0 [] (by simp [hz, hl]) (by simp)]
      simp
    have : (execOp a.eval ⟨some d, .buildSlice t 1 #[(0, x)], ty, pos, after, g⟩).run P w = .ok (.value (.slice (some ⟨w.heap.size, 0, none⟩) 1 1)) (w.alloc (.cells cs.toArray e)) := by
      unfold execOp
      simp only [Instr.buildSlice, Sem.run_bind, run_underlying hu, Result.andThen_ok, (tyk_ok hke).sizeOf w, Nat.one_mul, List.map_toArray, List.map_cons, List.map_nil, hf.ev hx]
      rw [if_neg (by omega)]
      by_cases h0 : ke.size = 0
      · rw [if_pos h0]
        simp only [Sem.run_bind, Sem.run_pure, Result.andThen_ok]
        rw [hfill _ (by simp [h0])]
        simp [newRow, newObj]
        rfl
      · rw [if_neg h0]
        simp only [Sem.run_bind, (tyk_ok hke).zeroRun w, Result.andThen_ok, Sem.run_pure]
        rw [hfill _ (by simp)]
        simp [newRow, newObj]
        rfl
    rw [this]
    exact hK _ _ _ trivial (fun _ => (Below.refl _ _).alloc (Nat.le_refl _) _) (hf.put hn _) (hs.blk e cs)⟩
/-- '[]T{}'. -/
theorem X.buildSlice0 [Tys P] {d : Nat} {t e ty : TypeId} {pos : String} {after : Array Edge} {g : Option (Nat × Bool)} {k ke : TyK} (hn : Nat.blt d n.n = true) (hk : tyk P t = some k) (hd : k.desc = .slice e) (hke : tyk P e = some ke) :
    X P n w0 H0 env H L ⟨some d, .buildSlice t 0 #[], ty, pos, after, g⟩ true (G := Nat) (fun _ => True) (fun b => (d, .slice (some ⟨b, 0, none⟩) 0 0) :: env) (fun _ => H) (fun b => .row (.slice (some ⟨b, 0, none⟩) 0 0) e ke.size 0 [] :: L) :=
  ⟨fun a w hf hs K Q hK => by
    obtain ⟨dd, hu, hf'⟩ := (tyk_ok hk).und
    rw [hd] at hf'
    simp only [TyD.fits] at hf'
    subst hf'
    unfold Oper.wp
    have : (execOp a.eval ⟨some d, .buildSlice t 0 #[], ty, pos, after, g⟩).run P w = .ok (.value (.slice (some ⟨w.heap.size, 0, none⟩) 0 0)) (w.alloc (.cells #[] e)) := by
      unfold execOp
      have h0 : (Array.map (fun (_ : Nat) => (default : Value)) (Array.range 0)) = #[] := by simp
      simp [Instr.buildSlice, run_underlying hu, (tyk_ok hke).sizeOf w, Instr.fill, newRow, newObj, h0]
      rfl
    rw [this]
    refine hK _ _ _ trivial (fun _ => (Below.refl _ _).alloc (Nat.le_refl _) _) (hf.put hn _) (hs.alloc (e := .row (.slice (some ⟨w.heap.size, 0, none⟩) 0 0) e ke.size 0 []) rfl ?_)
    exact ⟨by simp, .inr ⟨w.heap.size, 0, #[], rfl, hs.below.size, heap_alloc_new w _, Nat.le_refl _, by simp [maxLen], by simp, by simp⟩⟩⟩

/-! ### append -/
theorem ownsRow_nil (w : World) (base : Nat) (e : TypeId) (size : Nat) : w.ownsRow base e size (.slice none 0 0) 0 [] := ⟨by simp, .inl ⟨rfl, rfl⟩⟩
theorem St.nilRow {w : World} (hs : St w0 H0 H L w) (e : TypeId) (size : Nat) : St w0 H0 H (.row (.slice none 0 0) e size 0 [] :: L) w :=
  ⟨hs.below, hs.sat, hs.le, hs.new, fun f hf => by
    rcases List.mem_cons.1 hf with rfl | hf
    · exact ownsRow_nil _ _ _ _
    · exact hs.ok f hf, fun f hf b hb => by
    rcases List.mem_cons.1 hf with rfl | hf
    · simp [Loc.at, Value.ownBlock] at hb
    · exact hs.out f hf b hb, .cons (fun f _ b hb => by simp [Loc.at, Value.ownBlock] at hb) hs.apart⟩
/-- A nil slice counts as a row of the call's own. -/
theorem T.nilRow {Q : Exit → Act → World → Prop} {c : Code} (e : TypeId) (size : Nat) (h : T P n w0 H0 c Q env H (.row (.slice none 0 0) e size 0 [] :: L)) : T P n w0 H0 c Q env H L :=
  ⟨fun a w hf hs => h.out a w hf (hs.nilRow e size)⟩
/-- One of the call's own blocks has turned, or a new one has come in its place. -/
theorem St.turn {w w' : World} (hs : St w0 H0 H L w) {i : Nat} {e e' : Loc} (hi : L[i]? = some e) (hg : w.grownBy w' e.at) (hat : e'.at = e.at ∨ e'.at = some w.heap.size) (hok : e'.ok w0.heap.size w') : St w0 H0 H (L.set i e') w' := by
  have hme := List.mem_of_getElem? hi
  have keep : ∀ k, k < w.heap.size → e.at ≠ some k → w'.heap[k]? = w.heap[k]? := fun k hk hne => hg.block k hk (fun e' => hne e'.symm)
  have far : ∀ b, e'.at = some b → ∀ f ∈ L, e.far f ∨ f.far e → f.at ≠ some b := by
    intro b hb f hf hfar hfb
    rcases hat with h | h
    · rcases hfar with hh | hh
      · exact hh b (h ▸ hb) hfb
      · exact hh b hfb (h ▸ hb)
    · rw [h] at hb; cases hb
      have := ((hs.ok f hf).lt hfb).1
      omega
  refine ⟨⟨hg.os.trans hs.below.os, hg.tape.trans hs.below.tape, hg.output.trans hs.below.output, Nat.le_trans hs.below.size hg.size, fun k hk => (keep k (Nat.lt_of_lt_of_le hk hs.below.size) (fun he => ?_)).trans (hs.below.block k hk)⟩, fun k o ho => ?_, hs.le, hs.new, ?_, ?_, ?_⟩
  · have := ((hs.ok e hme).lt he).2; omega
  · have hk := hs.sat.lt (k := k) (by rw [ho]; simp)
    rw [keep k hk (fun he => by rw [hs.out e hme k he] at ho; cases ho)]
    exact hs.sat k o ho
  · intro f hf
    obtain ⟨j, hj⟩ := List.getElem?_of_mem hf
    rw [List.getElem?_set] at hj
    by_cases hij : i = j
    · subst hij
      simp only [if_true] at hj
      split at hj
      · cases hj; exact hok
      · cases hj
    · rw [if_neg hij] at hj
      have hfm := List.mem_of_getElem? hj
      refine (hs.ok f hfm).keep fun c hc => keep c ((hs.ok f hfm).lt hc).1 fun he => ?_
      have hap := hs.apart
      rw [List.pairwise_iff_getElem] at hap
      obtain ⟨hil, hie⟩ := List.getElem?_eq_some_iff.1 hi
      obtain ⟨hjl, hje⟩ := List.getElem?_eq_some_iff.1 hj
      rcases Nat.lt_or_ge i j with hlt | hge
      · exact hap i j hil hjl hlt c (by rw [hie]; exact he) (by rw [hje]; exact hc)
      · exact hap j i hjl hil (by omega) c (by rw [hje]; exact hc) (by rw [hie]; exact he)
  · intro f hf c hc
    rcases List.mem_or_eq_of_mem_set hf with hf | rfl
    · exact hs.out f hf c hc
    · rcases hat with h | h
      · exact hs.out e hme c (h ▸ hc)
      · rw [h] at hc; cases hc
        by_cases hk : H w.heap.size = none
        · exact hk
        · have := hs.sat.lt hk; omega
  · obtain ⟨hil, hie⟩ := List.getElem?_eq_some_iff.1 hi
    have hap := hs.apart
    rw [List.pairwise_iff_getElem] at hap ⊢
    intro a b ha hb hab c hc hc2
    simp only [List.length_set] at ha hb
    rw [List.getElem_set] at hc hc2
    by_cases h1 : i = a
    · rw [if_pos h1] at hc
      rw [if_neg (by omega)] at hc2
      exact far c hc _ (List.getElem_mem _) (.inl (by rw [← hie]; subst h1; exact hap i b ha hb hab)) hc2
    · rw [if_neg h1] at hc
      by_cases h2 : i = b
      · rw [if_pos h2] at hc2
        exact far c hc2 _ (List.getElem_mem _) (.inr (by rw [← hie]; subst h2; exact hap a i ha hb hab)) hc
      · rw [if_neg h2] at hc2
        exact hap a b ha hb hab c hc hc2
/-- 'append(row, x...)', row one of the call's own (number i of L); the cells of x lie in a block of the call's own. -/
theorem run_append_x [Tys P] {w : World} (hs : St w0 H0 H L w) {t e : TypeId} {k ke : TyK} (hk : tyk P t = some k) (hd : k.desc = .slice e) (hke : tyk P e = some ke) (h0 : Nat.beq ke.size 0 = false) (hz : Nat.beq ke.zero.cells.size ke.size = true) {i : Nat} {v : Value} {m : Nat} {xs : List Value} (hi : L[i]? = some (.row v e ke.size m xs))
    {ad : Addr} {c j : Nat} {news : List Value} (hl : news.length = j * ke.size) (hnews : ∀ q u, news[q]? = some u → w.cell? (ad.add q) = some u) (h1 : ∀ u ∈ news, u.oneCell' = true) (hb : (m + j) * ke.bytes ≤ 140737488355328) (h63 : m + j ≤ 9223372036854775807) (ty : TypeId) :
    ∃ v' w', (Builtin.append_ #[t, t] ty #[v, .slice (some ad) j c]).run P w = .ok v' w' ∧ St w0 H0 H (L.set i (.row v' e ke.size (m + j) (xs ++ news))) w' ∧ (v' = .slice none 0 0 ↔ v = .slice none 0 0 ∧ j = 0) := by
  obtain ⟨dd, hu, hf'⟩ := (tyk_ok hk).und
  rw [hd] at hf'
  simp only [TyD.fits] at hf'
  subst hf'
  obtain ⟨inf, hinf, e1, e2, e3⟩ := (tyk_ok hke).get
  have h0' : 0 < ke.size := Nat.pos_of_ne_zero fun e => by rw [e] at h0; simp at h0
  obtain ⟨v', w', hrun, hown, hgr, hnil, hat⟩ := run_append_own_at (P := P) w w0.heap.size t ty e inf ke.zero ke.size ke.bytes hu hinf e3 e1 e2 (Nat.eq_of_beq_eq_true hz) h0' v m xs (hs.ok _ (List.mem_of_getElem? hi)) ad j c news hl hnews h1 (by simpa [maxLen] using h63) hb hs.below.size
  exact ⟨v', w', hrun, hs.turn hi hgr hat hown, hnil⟩
theorem run_appendOp {a : Act} {w w' : World} {o : Oper} {x y : Operand} {tys : Array TypeId} {v u r : Value} (ho : o.op = .call { callee := .builtin .append, args := #[x, y], argTypes := tys }) (hx : a.eval x = v) (hy : a.eval y = u)
    (h : (Builtin.append_ tys o.type #[v, u]).run P w = .ok r w') : (execOp a.eval o).run P w = .ok (.value r) w' := by
  unfold execOp
  rw [ho]
  simp [resolve, invoke, builtin, hx, hy, h]
theorem X.append [Tys P] (i : Nat) {d : Nat} {t e ty : TypeId} {x y : Operand} {pos : String} {after : Array Edge} {g : Option (Nat × Bool)} {k ke : TyK} {v : Value} {m j c b : Nat} {xs news : List Value} {T' : TypeId} (hn : Nat.blt d n.n = true) (hk : tyk P t = some k) (hd : k.desc = .slice e) (hke : tyk P e = some ke) (h0 : Nat.beq ke.size 0 = false) (hz : Nat.beq ke.zero.cells.size ke.size = true)
    (hx : ev env x = some v) (hi : L[i]? = some (.row v e ke.size m xs)) (hy : ev env y = some (.slice (some ⟨b, 0, none⟩) j c)) (hm : Loc.blk b T' news ∈ L) (hl : news.length = j * ke.size) (h1 : news.all (·.oneCell') = true) (hb : (m + j) * ke.bytes ≤ 140737488355328) (h63 : m + j ≤ 9223372036854775807) :
    X P n w0 H0 env H L ⟨some d, .call { callee := .builtin .append, args := #[x, y], argTypes := #[t, t] }, ty, pos, after, g⟩ false (G := Value) (fun v' => v' = .slice none 0 0 ↔ v = .slice none 0 0 ∧ j = 0) (fun v' => (d, v') :: env) (fun _ => H) (fun v' => L.set i (.row v' e ke.size (m + j) (xs ++ news))) :=
  ⟨fun a w hf hs K Q hK => by
    obtain ⟨v', w', hrun, hst, hnil⟩ := run_append_x hs hk hd hke h0 hz hi (ad := ⟨b, 0, none⟩) hl (fun q u hu => by rw [Addr.add_mid, Nat.zero_add]; exact hs.blk_cell hm hu) (fun u hu => List.all_eq_true.1 h1 u hu) hb h63 ty (c := c)
    unfold Oper.wp
    rw [run_appendOp (v := v) (u := .slice (some ⟨b, 0, none⟩) j c) rfl (hf.ev hx) (hf.ev hy) hrun]
    exact hK v' _ _ hnil (fun h => by cases h) (hf.put hn _) hst⟩
/-- .. the cells of x lie in the heap that nobody writes. -/
theorem X.appendH [Tys P] (i : Nat) {d : Nat} {t e ty : TypeId} {x y : Operand} {pos : String} {after : Array Edge} {g : Option (Nat × Bool)} {k ke : TyK} {v : Value} {m j c b o : Nat} {xs news : List Value} (hn : Nat.blt d n.n = true) (hk : tyk P t = some k) (hd : k.desc = .slice e) (hke : tyk P e = some ke) (h0 : Nat.beq ke.size 0 = false) (hz : Nat.beq ke.zero.cells.size ke.size = true)
    (hx : ev env x = some v) (hi : L[i]? = some (.row v e ke.size m xs)) {A : Option Addr} (hy : ev env y = some (.slice A j c)) (hA : A = some ⟨b, o, none⟩) (hm : H.cells b o news) (hl : news.length = j * ke.size) (h1 : news.all (·.oneCell') = true) (hb : (m + j) * ke.bytes ≤ 140737488355328) (h63 : m + j ≤ 9223372036854775807) :
    X P n w0 H0 env H L ⟨some d, .call { callee := .builtin .append, args := #[x, y], argTypes := #[t, t] }, ty, pos, after, g⟩ false (G := Value) (fun v' => v' = .slice none 0 0 ↔ v = .slice none 0 0 ∧ j = 0) (fun v' => (d, v') :: env) (fun _ => H) (fun v' => L.set i (.row v' e ke.size (m + j) (xs ++ news))) :=
  ⟨fun a w hf hs K Q hK => by
    subst hA
    obtain ⟨v', w', hrun, hst, hnil⟩ := run_append_x hs hk hd hke h0 hz hi (ad := ⟨b, o, none⟩) hl (fun q u hu => by rw [Addr.add_mid]; exact hs.sat.cell (hm q u hu)) (fun u hu => List.all_eq_true.1 h1 u hu) hb h63 ty (c := c)
    unfold Oper.wp
    rw [run_appendOp (v := v) (u := .slice (some ⟨b, o, none⟩) j c) rfl (hf.ev hx) (hf.ev hy) hrun]
    exact hK v' _ _ hnil (fun h => by cases h) (hf.put hn _) hst⟩

/-! ### what the call made becomes memory that nobody writes -/
def Hp.put (H : Hp) (b : Nat) (o : Obj) : Hp := fun k => if k = b then some o else H k
theorem Hp.put_le (H : Hp) {b : Nat} (o : Obj) (hb : H b = none) : H.le (H.put b o) := fun k x hk => by
  unfold Hp.put
  by_cases e : k = b
  · subst e; rw [hb] at hk; cases hk
  · rw [if_neg e]; exact hk
theorem St.freeze {w : World} {e : Loc} (hs : St w0 H0 H (e :: L) w) {b : Nat} {o : Obj} (hb : e.at = some b) (ho : w.heap[b]? = some o) : St w0 H0 (H.put b o) L w := by
  have hme : e ∈ e :: L := by simp
  have hnone := hs.out e hme b hb
  have hbase := ((hs.ok e hme).lt hb).2
  refine ⟨hs.below, fun k x hk => ?_, hs.le.trans (Hp.put_le H o hnone), fun k h0 h1 => ?_, fun f hf => hs.ok f (by simp [hf]), fun f hf c hc => ?_, ?_⟩
  · unfold Hp.put at hk
    by_cases e : k = b
    · subst e; rw [if_pos rfl] at hk; cases hk; exact ho
    · rw [if_neg e] at hk; exact hs.sat k x hk
  · unfold Hp.put at h1
    by_cases e : k = b
    · subst e; exact hbase
    · rw [if_neg e] at h1; exact hs.new k h0 h1
  · unfold Hp.put
    have hap := hs.apart
    rw [List.pairwise_cons] at hap
    rw [if_neg (by rintro rfl; exact hap.1 f hf c hb hc)]
    exact hs.out f (by simp [hf]) c hc
  · have hap := hs.apart
    rw [List.pairwise_cons] at hap
    exact hap.2
theorem St.drop {w : World} {e : Loc} (hs : St w0 H0 H (e :: L) w) : St w0 H0 H L w := hs.sub (List.sublist_cons_self _ _)
end
/-- The cells of elements. -/
def encs {α : Type} [Enc α] (l : List α) : List Value := l.flatMap enc
section
variable {P : Program} {n : FK} {w0 : World} {H0 H : Hp} {env : List (Nat × Value)} {L : List Loc} {α : Type} [Enc α]
theorem encs_nil : encs ([] : List α) = [] := rfl
theorem encs_snoc (l : List α) (x : α) : encs (l ++ [x]) = encs l ++ enc x := by simp [encs]
theorem encs_append (l m : List α) : encs (l ++ m) = encs l ++ encs m := by simp [encs]
theorem encs_length (l : List α) : (encs l).length = l.length * Enc.size α := by
  induction l with
  | nil => simp [encs]
  | cons x l ih => rw [encs, List.flatMap_cons, List.length_append, Enc.len, ← encs, ih, List.length_cons]; rw [Nat.add_mul, Nat.one_mul, Nat.add_comm]
theorem encs_get (l : List α) (k j : Nat) (x : α) (v : Value) (hk : l[k]? = some x) (hj : (enc x)[j]? = some v) : (encs l)[k * Enc.size α + j]? = some v := by
  induction l generalizing k with
  | nil => simp at hk
  | cons y l ih =>
    rw [encs, List.flatMap_cons, ← encs]
    cases k with
    | zero =>
      simp at hk
      subst hk
      rw [Nat.zero_mul, Nat.zero_add, List.getElem?_append_left (List.getElem?_eq_some_iff.1 hj).1]
      exact hj
    | succ k =>
      simp at hk
      have hl := Enc.len y
      rw [List.getElem?_append_right (by rw [hl, Nat.add_mul]; omega), hl]
      have : (k + 1) * Enc.size α + j - Enc.size α = k * Enc.size α + j := by rw [Nat.add_mul]; omega
      rw [this]
      exact ih k hk
theorem encs_one (l : List α) : ∀ v ∈ encs l, v.oneCell' = true := fun v hv => by
  obtain ⟨x, _, hx⟩ := List.mem_flatMap.1 hv
  exact List.all_eq_true.1 (Enc.one x) v hx
/-- A row of the call's own that holds elements, turned into memory that nobody writes: a good slice. -/
theorem St.freezeRow {w : World} {v : Value} {e : TypeId} {size m : Nat} {els : List α} (hs : St w0 H0 H (.row v e size m (encs els) :: L) w) (hsz : size = Enc.size α) (hm : els.length = m) (hg : ∀ x ∈ els, Enc.good H x) :
    ∃ (H' : Hp) (s : Slc α), s.v = v ∧ s.els = els ∧ s.Good H' ∧ H.le H' ∧ St w0 H0 H' L w := by
  subst hsz
  rcases (show w.ownsRow w0.heap.size e (Enc.size α) v m (encs els) from hs.ok (.row v e (Enc.size α) m (encs els)) (by simp)).2 with ⟨rfl, h0⟩ | ⟨g, cap, cur, rfl, hbase, hh, hmc, hcm, hcs, htake⟩
  · subst h0
    have : els = [] := List.eq_nil_of_length_eq_zero hm
    subst this
    exact ⟨H, Slc.nil α, rfl, rfl, Slc.nil_good, .refl _, hs.drop⟩
  · have hnone : H g = none := hs.out _ (by simp : Loc.row (.slice (some ⟨g, 0, none⟩) m cap) e (Enc.size α) m (encs els) ∈ _) g rfl
    have hle := Hp.put_le H (.cells cur e (0, 0)) hnone
    refine ⟨H.put g (.cells cur e (0, 0)), ⟨some ⟨g, 0, none⟩, m, cap, els⟩, rfl, rfl, ⟨hm, hmc, by simpa [maxLen] using hcm, fun _ => rfl, fun k x hk j u hj => ?_, fun x hx => Enc.mono hle (hg x hx)⟩, hle, hs.freeze rfl hh⟩
    have h1 := encs_get els k j x u hk hj
    have hlt : k * Enc.size α + j < m * Enc.size α := by
      have := (List.getElem?_eq_some_iff.1 h1).1
      rw [encs_length, hm] at this; exact this
    have hc : (H.put g (.cells cur e (0, 0))).cell g (0 + k * Enc.size α + j) = cur[0 + k * Enc.size α + j]? := by
      unfold Hp.cell Hp.put
      rw [if_pos rfl]
    refine Eq.trans hc ?_
    rw [Nat.zero_add, ← h1, ← htake, List.getElem?_take, if_pos hlt]
    simp
end
end Go.Proofs.YtfbhcemlnojejaaDoor
namespace Go.Proofs.YtfbhcemlnojejaaDoor
set_option linter.unusedVariables false
set_option linter.unusedSimpArgs false
open Go Go.RowKit
open Enc (enc)

section
variable {P : Program} {n : FK} {w0 : World} {H0 H : Hp} {S : World → Prop} {env : List (Nat × Value)} {L : List Loc}
theorem V.rem {t u : TypeId} {x y : Operand} {i j : Int} (hx : ev env x = some (intV i)) (hy : ev env y = some (intV j)) (hj : 0 < j) : V P n S env (.binOp .rem t x y u) (intV (i.tmod j)) :=
  ⟨fun o a w ho hf _ => by
    unfold execOp; rw [ho]
    simp only [hf.ev hx, hf.ev hy, binOp, eqGuard, Op.intDiv]
    simp [show j ≠ 0 by omega]⟩
theorem V.mul {t u : TypeId} {x y : Operand} {i j : Int} (hx : ev env x = some (intV i)) (hy : ev env y = some (intV j)) (h : -9223372036854775808 ≤ i * j ∧ i * j ≤ 9223372036854775807) : V P n S env (.binOp .mul t x y u) (intV (i * j)) :=
  ⟨fun o a w ho hf _ => by unfold execOp; rw [ho]; simp [hf.ev hx, hf.ev hy, binOp, eqGuard, Op.intArith, wrap_i64 h]⟩
theorem V.sgtr {t u : TypeId} {x y : Operand} {i j : List UInt8} (hx : ev env x = some (strV i)) (hy : ev env y = some (strV j)) : V P n S env (.binOp .gtr t x y u) (.bool (!(Op.bytesLess i j || decide (i = j)))) :=
  ⟨fun o a w ho hf _ => by
    unfold execOp; rw [ho]; simp only [hf.ev hx, hf.ev hy, binOp, eqGuard, Op.stringOp, ByteArray.toList_mk]
    have : (i == j) = decide (i = j) := by rw [Bool.eq_iff_iff]; simp
    rw [← this]; simp⟩
theorem V.sadd {t u : TypeId} {x y : Operand} {i j : List UInt8} (hx : ev env x = some (strV i)) (hy : ev env y = some (strV j)) (h : i.length + j.length ≤ 9223372036854775807) : V P n S env (.binOp .add t x y u) (strV (i ++ j)) :=
  ⟨fun o a w ho hf _ => by
    have hs : ((⟨i.toArray⟩ : ByteArray).size + (⟨j.toArray⟩ : ByteArray).size) ≤ 9223372036854775807 := h
    have := run_string_add_sum (P := P) (w := w) ⟨i.toArray⟩ ⟨j.toArray⟩ hs
    have he : (⟨i.toArray⟩ : ByteArray) ++ (⟨j.toArray⟩ : ByteArray) = ⟨(i ++ j).toArray⟩ := by
      apply ByteArray.ext
      simp
    rw [he] at this
    unfold execOp; rw [ho]; simp only [hf.ev hx, hf.ev hy, binOp, eqGuard, Sem.run_bind]
    simp [this]⟩
theorem V.beql {t u : TypeId} {x y : Operand} {i j : Bool} (hk : P.underlying t = some .bool) (hx : ev env x = some (.bool i)) (hy : ev env y = some (.bool j)) : V P n S env (.binOp .eql t x y u) (.bool (i == j)) :=
  ⟨fun o a w ho hf _ => by unfold execOp; rw [ho]; simp [hf.ev hx, hf.ev hy, binOp, eqGuard, Op.equal, Op.maxDepth, run_equalIn_bool' w 9999 t i j hk]⟩
theorem V.sbyte [Tys P] {t : TypeId} {x y : Operand} {l : List UInt8} {i : Int} {ik : IntKind} {k : TyK} (hk : tyk P t = some k) (hd : k.desc = .str) (hx : ev env x = some (strV l)) (hy : ev env y = some (.int ik i)) (h0 : 0 ≤ i ∧ i < l.length) : V P n S env (.index t x y) (.int .u8 (l.getD i.toNat 0).toNat) :=
  V.sindex hk hd hx hy h0.1 (by rw [List.getD_eq_getElem?_getD, List.getElem?_eq_getElem (by omega)]; rfl)
theorem V.sbyteN [Tys P] {t : TypeId} {x y : Operand} {l : List UInt8} {j : Nat} {ik : IntKind} {k : TyK} (hk : tyk P t = some k) (hd : k.desc = .str) (hx : ev env x = some (strV l)) (hy : ev env y = some (.int ik (j : Int))) (h0 : j < l.length) : V P n S env (.index t x y) (.int .u8 (l.getD j 0).toNat) :=
  V.sbyte hk hd hx hy (by omega)
theorem V.sbyte0 [Tys P] {t : TypeId} {x y : Operand} {l : List UInt8} {ik : IntKind} {k : TyK} (hk : tyk P t = some k) (hd : k.desc = .str) (hx : ev env x = some (strV l)) (hy : ev env y = some (.int ik 0)) (h0 : 0 < l.length) : V P n S env (.index t x y) (.int .u8 (l.getD 0 0).toNat) :=
  V.sbyte hk hd hx hy (by omega)
/-- A bound of a cut that is there. -/
theorem run_bound {w : World} {k : IntKind} {i : Int} {j y : Nat} {c : BoundsCode} (hi : i = (j : Int)) (hj : j ≤ y) : (Instr.sliceBound (.int k i) y c).run P w = .ok j w := by
  subst hi
  simp [Instr.sliceBound, asIntOf, show (j : Int) ≤ y by omega]
/-- 's[a:b]', 's[a:]', 's[:b]'. -/
theorem V.scut [Tys P] {t : TypeId} {x y z : Operand} {l : List UInt8} {i k : Int} {a b : Nat} {K : TyK} {ik jk : IntKind} (hk : tyk P t = some K) (hd : K.desc = .str) (hx : ev env x = some (strV l)) (hy : ev env y = some (.int ik i)) (hz : ev env z = some (.int jk k)) (hi : i = (a : Int)) (hj : k = (b : Int)) (h1 : a ≤ b) (h2 : b ≤ l.length) :
    V P n S env (.slice t x (some y) (some z) none) (strV ((l.drop a).take (b - a))) :=
  ⟨fun o A w ho hf _ => by
    obtain ⟨d, hu, hf'⟩ := (tyk_ok hk).und
    rw [hd] at hf'
    simp only [TyD.fits] at hf'
    subst hf'
    have hs : (⟨l.toArray⟩ : ByteArray).size = l.length := rfl
    unfold execOp; rw [ho]
    simp [hf.ev hx, hf.ev hy, hf.ev hz, Instr.sliceAt, Instr.slice, Instr.sliceBounds, run_underlying hu, hs, run_bound hj h2, run_bound hi h1, ByteArray.extract_mk]⟩
theorem V.scutL [Tys P] {t : TypeId} {x y : Operand} {l : List UInt8} {i : Int} {a : Nat} {K : TyK} {ik : IntKind} (hk : tyk P t = some K) (hd : K.desc = .str) (hx : ev env x = some (strV l)) (hy : ev env y = some (.int ik i)) (hi : i = (a : Int)) (h1 : a ≤ l.length) :
    V P n S env (.slice t x (some y) none none) (strV (l.drop a)) :=
  ⟨fun o A w ho hf _ => by
    obtain ⟨d, hu, hf'⟩ := (tyk_ok hk).und
    rw [hd] at hf'
    simp only [TyD.fits] at hf'
    subst hf'
    have hs : (⟨l.toArray⟩ : ByteArray).size = l.length := rfl
    unfold execOp; rw [ho]
    simp [hf.ev hx, hf.ev hy, Instr.sliceAt, Instr.slice, Instr.sliceBounds, run_underlying hu, hs, run_bound hi h1, ByteArray.extract_mk]
    rw [List.take_of_length_le (by simp)]⟩
theorem V.scutR [Tys P] {t : TypeId} {x y : Operand} {l : List UInt8} {i : Int} {a : Nat} {K : TyK} {ik : IntKind} (hk : tyk P t = some K) (hd : K.desc = .str) (hx : ev env x = some (strV l)) (hy : ev env y = some (.int ik i)) (hi : i = (a : Int)) (h1 : a ≤ l.length) :
    V P n S env (.slice t x none (some y) none) (strV (l.take a)) :=
  ⟨fun o A w ho hf _ => by
    obtain ⟨d, hu, hf'⟩ := (tyk_ok hk).und
    rw [hd] at hf'
    simp only [TyD.fits] at hf'
    subst hf'
    have hs : (⟨l.toArray⟩ : ByteArray).size = l.length := rfl
    unfold execOp; rw [ho]
    simp [hf.ev hx, hf.ev hy, Instr.sliceAt, Instr.slice, Instr.sliceBounds, run_underlying hu, hs, run_bound hi h1, ByteArray.extract_mk]⟩
theorem V.scutLT [Tys P] {t : TypeId} {x y : Operand} {l : List UInt8} {i : Int} {K : TyK} {ik : IntKind} (hk : tyk P t = some K) (hd : K.desc = .str) (hx : ev env x = some (strV l)) (hy : ev env y = some (.int ik i)) (h1 : 0 ≤ i ∧ i ≤ l.length) :
    V P n S env (.slice t x (some y) none none) (strV (l.drop i.toNat)) := V.scutL hk hd hx hy (by omega) (by omega)
theorem V.scutRT [Tys P] {t : TypeId} {x y : Operand} {l : List UInt8} {i : Int} {K : TyK} {ik : IntKind} (hk : tyk P t = some K) (hd : K.desc = .str) (hx : ev env x = some (strV l)) (hy : ev env y = some (.int ik i)) (h1 : 0 ≤ i ∧ i ≤ l.length) :
    V P n S env (.slice t x none (some y) none) (strV (l.take i.toNat)) := V.scutR hk hd hx hy (by omega) (by omega)
theorem V.scutT [Tys P] {t : TypeId} {x y z : Operand} {l : List UInt8} {i j : Int} {K : TyK} {ik jk : IntKind} (hk : tyk P t = some K) (hd : K.desc = .str) (hx : ev env x = some (strV l)) (hy : ev env y = some (.int ik i)) (hz : ev env z = some (.int jk j)) (h1 : 0 ≤ i ∧ i ≤ j ∧ j ≤ l.length) :
    V P n S env (.slice t x (some y) (some z) none) (strV ((l.drop i.toNat).take (j.toNat - i.toNat))) := V.scut hk hd hx hy hz (by omega) (by omega) (by omega) (by omega)
/-- The address of an array's element. -/
theorem V.elemArr [Tys P] {t e : TypeId} {x y : Operand} {b o m j : Nat} {i : Int} {k ke : TyK} {ik : IntKind} (hk : tyk P t = some k) (hd : k.desc = .array m e) (hke : tyk P e = some ke) (hx : ev env x = some (.pointer (some ⟨b, o, none⟩))) (hy : ev env y = some (.int ik i)) (hi : i = (j : Int)) (h1 : j < m) :
    V P n S env (.indexAddr t x y) (.pointer (some ⟨b, o + j * ke.size, none⟩)) :=
  ⟨fun op a w ho hf _ => by
    obtain ⟨d, hu, hf'⟩ := (tyk_ok hk).und
    rw [hd] at hf'
    simp only [TyD.fits] at hf'
    subst hf'
    subst hi
    unfold execOp; rw [ho]
    simp [hf.ev hx, hf.ev hy, Instr.indexAt, asIntOf, run_underlying hu, h1, Instr.sureAddr, (tyk_ok hke).sizeOf w, Addr.add_mid]⟩
theorem V.elemArrI [Tys P] {t e : TypeId} {x y : Operand} {b o m : Nat} {i : Int} {k ke : TyK} {ik : IntKind} (hk : tyk P t = some k) (hd : k.desc = .array m e) (hke : tyk P e = some ke) (hx : ev env x = some (.pointer (some ⟨b, o, none⟩))) (hy : ev env y = some (.int ik i)) (h1 : 0 ≤ i ∧ i < m) :
    V P n S env (.indexAddr t x y) (.pointer (some ⟨b, o + i.toNat * ke.size, none⟩)) :=
  V.elemArr hk hd hke hx hy (by omega) (by omega)
/-! ### calls that read a block of the call's own -/
theorem St.satBlk {w : World} (hs : St w0 H0 H L w) {b : Nat} {T : TypeId} {cs : List Value} (hm : Loc.blk b T cs ∈ L) : Sat (H.put b (.cells cs.toArray T (0, 0))) w := fun k o hk => by
  unfold Hp.put at hk
  by_cases e : k = b
  · subst e; rw [if_pos rfl] at hk; cases hk; exact (hs.ok _ hm).2
  · rw [if_neg e] at hk; exact hs.sat k o hk
theorem Hp.put_cells {H : Hp} {b : Nat} {T : TypeId} {cs : List Value} : (H.put b (.cells cs.toArray T (0, 0))).cells b 0 cs := fun j v hj => by
  unfold Hp.cell Hp.put
  simp [hj]
theorem St.putLe {w : World} (hs : St w0 H0 H L w) {b : Nat} {T : TypeId} {cs : List Value} (hm : Loc.blk b T cs ∈ L) (o : Obj) : H.le (H.put b o) := Hp.put_le H o (hs.out _ hm b rfl)
theorem X.callR0 {d : Nat} {f : FuncId} {args : Array Operand} {tys : Array TypeId} {ty : TypeId} {pos : String} {after : Array Edge} {g : Option (Nat × Bool)} {vs : List Value} {v : Value}
    (hcall : ∀ (args : Array Value) (w : World), (callFunc f args).run P w = .ok (.enter f args) w) (hn : Nat.blt d n.n = true)
    (hargs : evs env args.toList = some vs) (hc : ∀ w, St w0 H0 H L w → Calls P f vs.toArray w (Ret w v)) :
    X P n w0 H0 env H L ⟨some d, .call { callee := .value (.func f), args := args, argTypes := tys }, ty, pos, after, g⟩ true (G := Unit) (fun _ => True) (fun _ => (d, v) :: env) (fun _ => H) (fun _ => L) :=
  ⟨fun a w hf hs K Q hK => by
    unfold Oper.wp
    rw [run_call rfl (by rfl) (hf.evs hargs) hcall]
    have hc' : Calls P f (#[] ++ vs.toArray ++ #[]) w (Ret w v) := by simpa using hc w hs
    refine Calls.mono hc' fun e w' ⟨he, hb⟩ => ?_
    subst he
    exact hK () _ _ trivial (fun _ => hb) (hf.put hn _) (hs.grow hb)⟩
/-- '[]int{..}' and the like: n parts of one cell each. -/
def nums : Nat → List Value → List (Nat × Value)
  | _, [] => []
  | i, v :: r => (i, v) :: nums (i + 1) r
def evOnes (env : List (Nat × Value)) : Nat → List (Nat × Operand) → Option (List Value)
  | _, [] => some []
  | i, (j, x) :: r =>
    match ev env x, evOnes env (i + 1) r, Nat.beq j i with
    | some v, some l, true => some (v :: l)
    | _, _, _ => none
theorem evOnes_evp {env : List (Nat × Value)} : ∀ {i : Nat} {parts : List (Nat × Operand)} {vs : List Value}, evOnes env i parts = some vs → evp env parts = some (nums i vs)
  | _, [], vs, h => by simp [evOnes] at h; subst h; rfl
  | i, (j, x) :: r, vs, h => by
    unfold evOnes at h
    cases h1 : ev env x with
    | none => rw [h1] at h; cases h
    | some v =>
      cases h2 : evOnes env (i + 1) r with
      | none => rw [h1, h2] at h; cases h
      | some l =>
        cases h3 : Nat.beq j i with
        | false => rw [h1, h2, h3] at h; cases h
        | true =>
          rw [h1, h2, h3] at h
          simp at h
          subst h
          have := Nat.eq_of_beq_eq_true h3
          subst this
          simp [evp, h1, evOnes_evp h2, nums]
theorem fill_ones : ∀ (vs : List Value) (i : Nat) (cs pre : List Value), (∀ v ∈ vs, v.cells.toList = [v]) → cs.length = i + vs.length → cs.take i = pre → fillL (fun i => some (i, 1)) cs (nums i vs) = some (pre ++ vs)
  | [], i, cs, pre, _, hl, hp => by
    simp only [nums, fillL, List.append_nil]
    rw [← hp, List.take_of_length_le (by simp at hl; omega)]
  | v :: vs, i, cs, pre, hv, hl, hp => by
    simp only [List.length_cons] at hl
    simp only [nums, fillL]
    rw [hv v (by simp)]
    rw [show (Nat.beq [v].length 1 && Nat.ble (i + 1) cs.length) = true by simp; omega]
    simp only [cond_true, putCells]
    rw [fill_ones vs (i + 1) (cs.set i v) (pre ++ [v]) (fun u hu => hv u (by simp [hu])) (by simp; omega) ?_]
    · simp
    · rw [List.take_succ_eq_append_getElem (by simp; omega), List.take_set_of_le (Nat.le_refl _), hp]
      simp
def one1 : Value → Bool
  | .agg _ => false
  | _ => true
theorem one1_cells {v : Value} (h : one1 v = true) : v.cells.toList = [v] := by
  cases v <;> first | rfl | cases h
theorem X.buildOnes [Tys P] {d : Nat} {t e ty m : Nat} {parts : Array (Nat × Operand)} {pos : String} {after : Array Edge} {g : Option (Nat × Bool)} {k ke : TyK} {vs : List Value} (hn : Nat.blt d n.n = true) (hk : tyk P t = some k) (hd : k.desc = .slice e) (hke : tyk P e = some ke) (h1 : ke.size = 1) (hp' : evOnes env 0 parts.toList = some vs)
    (hv' : vs.all one1 = true) (hm : vs.length = m) (hsm : Nat.ble m 16777216 = true) :
    X P n w0 H0 env H L ⟨some d, .buildSlice t m parts, ty, pos, after, g⟩ true (G := Nat) (fun _ => True) (fun b => (d, .slice (some ⟨b, 0, none⟩) m m) :: env) (fun _ => H) (fun b => .blk b e vs :: L) :=
  ⟨fun a w hf hs K Q hK => by
    have hp := evOnes_evp hp'
    have hv : ∀ v ∈ vs, v.cells.toList = [v] := fun v hv => one1_cells (List.all_eq_true.1 hv' v hv)
    obtain ⟨dd, hu, hf'⟩ := (tyk_ok hk).und
    rw [hd] at hf'
    simp only [TyD.fits] at hf'
    subst hf'
    have hsm' := Nat.le_of_ble_eq_true hsm
    have hparts : parts.map (fun (p : Nat × Operand) => (p.1, a.eval p.2)) = (nums 0 vs).toArray := by
      apply Array.toList_inj.1
      simpa using hf.evp hp
    unfold Oper.wp
    have hfill : ∀ (zs : Array Value), zs.size = m → Instr.fill (fun i => some (i, 1)) zs (nums 0 vs) = some vs.toArray := by
      intro zs hz
      have hz' : zs = zs.toList.toArray := by simp
      rw [hz']
      apply fill_eq
      rw [fill_ones vs 0 zs.toList [] hv (by simp [hz, hm]) (by simp)]
      simp
    have : (execOp a.eval ⟨some d, .buildSlice t m parts, ty, pos, after, g⟩).run P w = .ok (.value (.slice (some ⟨w.heap.size, 0, none⟩) m m)) (w.alloc (.cells vs.toArray e)) := by
      unfold execOp
      simp only [Instr.buildSlice, Sem.run_bind, run_underlying hu, Result.andThen_ok, (tyk_ok hke).sizeOf w, h1, Nat.mul_one, hparts]
      rw [if_neg (by omega)]
      by_cases h0 : m = 0
      · rw [if_pos h0]
        simp only [Sem.run_bind, Sem.run_pure, Result.andThen_ok]
        have := hfill ((Array.range m).map (fun x => (#[] : Array Value)[x % (#[] : Array Value).size]!)) (by simp)
        rw [this]
        simp [newRow, newObj]
        rfl
      · rw [if_neg h0]
        simp only [Sem.run_bind, (tyk_ok hke).zeroRun w, Result.andThen_ok, Sem.run_pure]
        have := hfill ((Array.range m).map (fun x => ke.zero.cells[x % ke.zero.cells.size]!)) (by simp)
        rw [this]
        simp [newRow, newObj]
        rfl
    rw [this]
    exact hK _ _ _ trivial (fun _ => (Below.refl _ _).alloc (Nat.le_refl _) _) (hf.put hn _) (hs.blk e vs)⟩
end
end Go.Proofs.YtfbhcemlnojejaaDoor
