/-
  The engine: an append onto a full slice that nobody writes; halves.
-/
import Derived.Test.YtfbhcemlnojejaaDoorEngC
import Derived.Test.YtfbhcemlnojejaaDoorEngG
namespace Go.Proofs.YtfbhcemlnojejaaDoor
set_option linter.unusedVariables false
set_option linter.unusedSimpArgs false
open Go Go.RowKit
section
variable {P : Program} {n : FK} {S : World → Prop} {env : List (Nat × Value)}
theorem V.half {t u : TypeId} {x y : Operand} {q r : IntKind} {a b : Nat} (hx : ev env x = some (.int q ((a : Int) + (b : Int)))) (hy : ev env y = some (.int r 1)) : V P n S env (.binOp .shr t x y u) (.int q (((a + b) / 2 : Nat) : Int)) := by
  have h := V.shr (P := P) (n := n) (S := S) (t := t) (u := u) hx hy (by decide)
  have e : ((a : Int) + (b : Int)).fdiv (2 ^ (1 : Int).toNat) = (((a + b) / 2 : Nat) : Int) := by
    rw [show (2 : Int) ^ (1 : Int).toNat = 2 from rfl, Int.fdiv_eq_ediv_of_nonneg _ (by decide)]
    omega
  rw [e] at h
  exact h
end
section
variable {P : Program} {n : FK} {w0 w w' : World} {H0 H H' : Hp} {Q : Exit → Act → World → Prop} {env : List (Nat × Value)} {L L' : List Loc} {ops rest : List Oper} {α : Type} [Enc α]
theorem grown_row (base : Nat) {e : TypeId} {z : Value} {size n m old : Nat} {xs news : List Value} (hzs : z.cells.size = size) (hx : xs.length = n * size) (hl : news.length = m * size) (h63 : n + m ≤ maxLen) (hbase : base ≤ w.heap.size) :
    (w.drew.alloc (.cells (xs.toArray ++ news.toArray ++ Builtin.zeroCells z.cells (grownCap w (n + m) old e - (n + m))) e)).ownsRow base e size (.slice (some ⟨w.heap.size, 0, none⟩) (n + m) (grownCap w (n + m) old e)) (n + m) (xs ++ news) := by
  have hlen : (xs ++ news).length = (n + m) * size := by rw [List.length_append, hx, hl, Nat.add_mul]
  have hge := grownCap_ge w (n + m) old e
  have hcm : grownCap w (n + m) old e ≤ maxLen := grownCap_le_maxLen w (n + m) old e h63
  refine ⟨hlen, .inr ⟨w.heap.size, _, _, rfl, hbase, heap_alloc_new w.drew _, hge, hcm, ?_, ?_⟩⟩
  · simp only [Array.size_append, List.size_toArray, size_zeroCells, hzs, hx, hl, ← Nat.add_mul]
    congr 1
    omega
  · simp only [Array.toList_append, List.append_assoc]
    rw [← List.append_assoc, ← hlen]
    exact List.take_left
theorem X.appendOn [Tys P] (s : Slc α) {d : Nat} {t e ty : TypeId} {x y : Operand} {pos : String} {after : Array Edge} {g : Option (Nat × Bool)} {k ke : TyK} {j c b : Nat} {news : List Value} {T' : TypeId} (hn : Nat.blt d n.n = true) (hk : tyk P t = some k) (hd : k.desc = .slice e) (hke : tyk P e = some ke) (hz : Nat.beq ke.zero.cells.size ke.size = true)
    (hx : ev env x = some s.v) (hsz : ke.size = Enc.size α) (hy : ev env y = some (.slice (some ⟨b, 0, none⟩) j c)) (hm : Loc.blk b T' news ∈ L) (hl : news.length = j * ke.size) (hg : s.Good H) (hfull : s.cap = s.len) (hj : 0 < j) (hb : (s.len + j) * ke.bytes ≤ 140737488355328) (h63 : s.len + j ≤ maxLen) :
    X P n w0 H0 env H L ⟨some d, .call { callee := .builtin .append, args := #[x, y], argTypes := #[t, t] }, ty, pos, after, g⟩ true (G := Nat × Nat) (fun _ => True) (fun p => (d, .slice (some ⟨p.1, 0, none⟩) (s.len + j) p.2) :: env) (fun _ => H) (fun p => .row (.slice (some ⟨p.1, 0, none⟩) (s.len + j) p.2) e ke.size (s.len + j) (encs s.els ++ news) :: L) :=
  ⟨fun a w hf hs K Q hK => by
    have hsmall : s.len + j ≤ 9223372036854775807 := by simp only [maxLen] at h63; omega
    obtain ⟨dd, hu, hf'⟩ := (tyk_ok hk).und
    rw [hd] at hf'
    simp only [TyD.fits] at hf'
    subst hf'
    obtain ⟨inf, hinf, e1, e2, e3⟩ := (tyk_ok hke).get
    have hzs : ke.zero.cells.size = ke.size := Nat.eq_of_beq_eq_true hz
    have hls : (encs s.els).length = s.len * ke.size := by rw [encs_length, hg.len, hsz]
    have hnews : ∀ q u, news[q]? = some u → w.cell? ((⟨b, 0, none⟩ : Addr).add q) = some u := fun q u hu => by rw [Addr.add_mid, Nat.zero_add]; exact hs.blk_cell hm hu
    have hrow : ∀ old, (w.drew.alloc (.cells ((encs s.els).toArray ++ news.toArray ++ Builtin.zeroCells ke.zero.cells (grownCap w (s.len + j) old e - (s.len + j))) e)).ownsRow w0.heap.size e ke.size (.slice (some ⟨w.heap.size, 0, none⟩) (s.len + j) (grownCap w (s.len + j) old e)) (s.len + j) (encs s.els ++ news) :=
      fun old => grown_row w0.heap.size hzs hls hl h63 hs.below.size
    have hbel : ∀ o, Below w.heap.size w (w.drew.alloc o) := fun o => ((Below.refl _ _).drew).alloc (by simp) _
    cases hA : s.A with
    | some ad =>
      have holds : ∀ q u, (encs s.els)[q]? = some u → w.cell? (ad.add q) = some u := fun q u hu => by
        have hq := (List.getElem?_eq_some_iff.1 hu).1
        have hpos : 0 < s.len := Nat.pos_of_ne_zero fun e => by rw [hls, e, Nat.zero_mul] at hq; omega
        have := hg.at_ hpos
        rw [hA] at this
        rw [Option.some.inj this, Addr.add_mid]
        exact hs.sat.cell (hg.all q u hu)
      have hr := run_append_grow (P := P) w t ty e inf ke.zero hu hinf e3 ad s.len s.cap (encs s.els) (by rw [e1]; exact hls) holds ⟨b, 0, none⟩ j c news (by rw [e1]; exact hl) hnews (by omega) (by omega) (growslice_fits (by omega) (by rw [e2]; exact hb))
      unfold Oper.wp
      rw [run_appendOp (v := .slice (some ad) s.len s.cap) (u := .slice (some ⟨b, 0, none⟩) j c) rfl (by rw [← hA]; exact hf.ev hx) (hf.ev hy) hr]
      exact hK (w.heap.size, grownCap w (s.len + j) s.cap e) _ _ trivial (fun _ => hbel _) (hf.put hn _) (hs.drew.alloc (e := .row (.slice (some ⟨w.heap.size, 0, none⟩) (s.len + j) (grownCap w (s.len + j) s.cap e)) e ke.size (s.len + j) (encs s.els ++ news)) rfl (hrow s.cap))
    | none =>
      have hl0 : s.len = 0 := by
        rcases Nat.eq_zero_or_pos s.len with h | h
        · exact h
        · have := hg.at_ h; rw [hA] at this; cases this
      have hc0 : s.cap = 0 := by omega
      have hels : s.els = [] := List.eq_nil_of_length_eq_zero (by rw [hg.len]; exact hl0)
      have hr := run_append_nil (P := P) w t ty e inf ke.zero hu hinf e3 ⟨b, 0, none⟩ j c news (by rw [e1]; exact hl) hnews hj (by omega) (by rw [e2]; rw [hl0, Nat.zero_add] at hb; omega)
      have hrow0 := hrow 0
      rw [hels, hl0] at hrow0
      simp only [encs_nil, Nat.zero_add, List.nil_append] at hrow0
      unfold Oper.wp
      rw [run_appendOp (v := .slice none 0 0) (u := .slice (some ⟨b, 0, none⟩) j c) rfl (by have := hf.ev hx; rw [show s.v = .slice none 0 0 by show Value.slice s.A s.len s.cap = _; rw [hA, hl0, hc0]] at this; exact this) (hf.ev hy) hr]
      refine hK (w.heap.size, grownCap w j 0 e) _ _ trivial (fun _ => hbel _) ?_ (hs.drew.alloc (e := .row (.slice (some ⟨w.heap.size, 0, none⟩) (s.len + j) (grownCap w j 0 e)) e ke.size (s.len + j) (encs s.els ++ news)) rfl ?_)
      · rw [hl0, Nat.zero_add]; exact hf.put hn _
      · rw [hels, hl0]
        simp only [encs_nil, Nat.zero_add, List.nil_append]
        have e0 : (#[] : Array Value) ++ news.toArray = news.toArray := by simp
        rw [show ([] : List Value).toArray = #[] from rfl, e0] at hrow0
        exact hrow0⟩
theorem X.callFE {G : Type} {φ : G → Prop} {v : G → Value} {H' : G → Hp} {d : Nat} {f : FuncId} {args : Array Operand} {tys : Array TypeId} {ty : TypeId} {pos : String} {after : Array Edge} {g : Option (Nat × Bool)} {vs : List Value} (us : List Value)
    (hcall : ∀ (args : Array Value) (w : World), (callFunc f args).run P w = .ok (.enter f args) w) (hn : Nat.blt d n.n = true)
    (hargs : evs env args.toList = some vs) (he : vs = us) (hc : ∀ w, St w0 H0 H L w → Calls P f us.toArray w (RetF w H φ v H')) :
    X P n w0 H0 env H L ⟨some d, .call { callee := .value (.func f), args := args, argTypes := tys }, ty, pos, after, g⟩ true (fun g => φ g ∧ H.le (H' g)) (fun g => (d, v g) :: env) H' (fun _ => L) := by
  subst he
  exact X.callF0 hcall hn hargs hc
/-- A store, with the cells that it leaves written out. -/
theorem X.storeTo [Tys P] {t ty : TypeId} {p x : Operand} {pos : String} {after : Array Edge} {g : Option (Nat × Bool)} {b o : Nat} {T : TypeId} {cs vs : List Value} {v : Value} {k : TyK} (i : Nat) (cs' : List Value) (hk : tyk P t = some k)
    (hp : ev env p = some (.pointer (some ⟨b, o, none⟩))) (hx : ev env x = some v) (hi : L[i]? = some (.blk b T cs)) (hv : v.cells = vs.toArray) (hl : vs.length = k.size) (h1 : vs.all (·.oneCell') = true) (ho : Nat.ble (o + vs.length) cs.length = true)
    (hc : putCells cs o vs = cs') {L' : List Loc} (hL' : L.set i (.blk b T cs') = L') : X P n w0 H0 env H L ⟨none, .store t p x, ty, pos, after, g⟩ false (G := Unit) (fun _ => True) (fun _ => env) (fun _ => H) (fun _ => L') := by
  subst hc
  exact X.store i hk hp hx hi hv hl h1 ho hL'
/-- .. the row's shape behind an append. -/
theorem X.appendSlcS [Tys P] (i : Nat) (s : Slc α) {d : Nat} {t e ty : TypeId} {x y : Operand} {pos : String} {after : Array Edge} {g : Option (Nat × Bool)} {k ke : TyK} {v : Value} {m : Nat} {xs : List Value} (hn : Nat.blt d n.n = true) (hk : tyk P t = some k) (hd : k.desc = .slice e) (hke : tyk P e = some ke) (h0 : Nat.beq ke.size 0 = false) (hz : Nat.beq ke.zero.cells.size ke.size = true)
    (hx : ev env x = some v) (hi : L[i]? = some (.row v e ke.size m xs)) (hy : ev env y = some s.v) (hsz : ke.size = Enc.size α) (hg : s.Good H) (hb : (m + s.len) * ke.bytes ≤ 140737488355328) (h63 : m + s.len ≤ 9223372036854775807) :
    X P n w0 H0 env H L ⟨some d, .call { callee := .builtin .append, args := #[x, y], argTypes := #[t, t] }, ty, pos, after, g⟩ false (G := Option Nat × Nat) (fun _ => True) (fun p => (d, .slice (p.1.map fun g => ⟨g, 0, none⟩) (m + s.len) p.2) :: env) (fun _ => H) (fun p => L.set i (.row (.slice (p.1.map fun g => ⟨g, 0, none⟩) (m + s.len) p.2) e ke.size (m + s.len) (xs ++ encs s.els))) :=
  ⟨fun a w hf hs K Q hK => by
    refine (X.appendSlc i s (pos := pos) (after := after) (g := g) (ty := ty) hn hk hd hke h0 hz hx hi hy hsz hg hb h63).out a w hf hs K Q fun v' a' w' _ hg' hf' hs' => ?_
    have hlen : i < L.length := (List.getElem?_eq_some_iff.1 hi).1
    have hme : Loc.row v' e ke.size (m + s.len) (xs ++ encs s.els) ∈ L.set i (.row v' e ke.size (m + s.len) (xs ++ encs s.els)) := List.mem_of_getElem? (i := i) (by simp [hlen])
    obtain ⟨o, c, rfl, _⟩ := hs'.rowShape hme
    exact hK (o, c) a' w' trivial hg' hf' hs'⟩
theorem X.callRE {d : Nat} {f : FuncId} {args : Array Operand} {tys : Array TypeId} {ty : TypeId} {pos : String} {after : Array Edge} {g : Option (Nat × Bool)} {vs : List Value} {v : Value} (us : List Value)
    (hcall : ∀ (args : Array Value) (w : World), (callFunc f args).run P w = .ok (.enter f args) w) (hn : Nat.blt d n.n = true)
    (hargs : evs env args.toList = some vs) (he : vs = us) (hc : ∀ w, St w0 H0 H L w → Calls P f us.toArray w (Ret w v)) :
    X P n w0 H0 env H L ⟨some d, .call { callee := .value (.func f), args := args, argTypes := tys }, ty, pos, after, g⟩ true (G := Unit) (fun _ => True) (fun _ => (d, v) :: env) (fun _ => H) (fun _ => L) := by
  subst he
  exact X.callR0 hcall hn hargs hc
end
end Go.Proofs.YtfbhcemlnojejaaDoor
namespace Go.Proofs.YtfbhcemlnojejaaDoor
set_option linter.unusedVariables false
set_option linter.unusedSimpArgs false
open Go Go.RowKit
theorem fill_parts (size : Nat) : ∀ (vs : List Value) (i : Nat) (cs pre : List Value), (∀ v ∈ vs, v.cells.toList.length = size) → cs.length = (i + vs.length) * size → cs.take (i * size) = pre → fillL (fun i => some (i * size, size)) cs (nums i vs) = some (pre ++ vs.flatMap (·.cells.toList))
  | [], i, cs, pre, _, hl, hp => by
    simp only [List.length_nil, Nat.add_zero] at hl
    rw [List.take_of_length_le (by omega)] at hp
    subst hp
    simp [nums, fillL]
  | v :: vs, i, cs, pre, hv, hl, hp => by
    have hv0 := hv v (by simp)
    have e1 : (i + 1) * size = i * size + size := by rw [Nat.add_mul, Nat.one_mul]
    have hle : i * size + size ≤ cs.length := by
      rw [hl, ← e1]
      exact Nat.mul_le_mul_right _ (by simp)
    have htk : (putCells cs (i * size) v.cells.toList).take ((i + 1) * size) = pre ++ v.cells.toList := by
      rw [e1, putCells_take _ _ _ _ (by rw [hv0]; exact Nat.le_refl _), put_all _ _ _ pre (by rw [List.length_take, hv0]; omega) (by rw [List.take_take, Nat.min_eq_left (by omega)]; exact hp)]
    have ih := fill_parts size vs (i + 1) (putCells cs (i * size) v.cells.toList) _ (fun u hu => hv u (by simp [hu])) (by rw [putCells_length, hl]; simp only [List.length_cons]; congr 1; omega) htk
    simp only [nums, fillL]
    rw [show (Nat.beq v.cells.toList.length size && Nat.ble (i * size + size) cs.length) = true by rw [hv0]; simp [hle]]
    simp only [cond_true]
    rw [ih]
    simp [List.append_assoc]
section
variable {P : Program} {n : FK} {w0 w w' : World} {H0 H H' : Hp} {Q : Exit → Act → World → Prop} {env : List (Nat × Value)} {L L' : List Loc} {ops rest : List Oper}
theorem X.buildParts [Tys P] {d : Nat} {t e ty m : Nat} {parts : Array (Nat × Operand)} {pos : String} {after : Array Edge} {g : Option (Nat × Bool)} {k ke : TyK} {vs : List Value} (cs : List Value) (hn : Nat.blt d n.n = true) (hk : tyk P t = some k) (hd : k.desc = .slice e) (hke : tyk P e = some ke) (hp' : evOnes env 0 parts.toList = some vs)
    (hv : vs.all (fun v => Nat.beq v.cells.toList.length ke.size) = true) (hm : vs.length = m) (hsm : Nat.ble (m * ke.size) 16777216 = true) (h0 : Nat.beq (m * ke.size) 0 = false) (hz : Nat.beq ke.zero.cells.size ke.size = true) (hcs : vs.flatMap (·.cells.toList) = cs) :
    X P n w0 H0 env H L ⟨some d, .buildSlice t m parts, ty, pos, after, g⟩ true (G := Nat) (fun _ => True) (fun b => (d, .slice (some ⟨b, 0, none⟩) m m) :: env) (fun _ => H) (fun b => .blk b e cs :: L) :=
  ⟨fun a w hf hs K Q hK => by
    have hp := evOnes_evp hp'
    have hv' : ∀ v ∈ vs, v.cells.toList.length = ke.size := fun v hv0 => Nat.eq_of_beq_eq_true (List.all_eq_true.1 hv v hv0)
    obtain ⟨dd, hu, hf'⟩ := (tyk_ok hk).und
    rw [hd] at hf'
    simp only [TyD.fits] at hf'
    subst hf'
    have hsm' := Nat.le_of_ble_eq_true hsm
    have h0' : m * ke.size ≠ 0 := fun e => by rw [e] at h0; simp at h0
    have hparts : parts.map (fun (p : Nat × Operand) => (p.1, a.eval p.2)) = (nums 0 vs).toArray := by
      apply Array.toList_inj.1
      simpa using hf.evp hp
    unfold Oper.wp
    have hfill : ∀ (zs : Array Value), zs.size = m * ke.size → Instr.fill (fun i => some (i * ke.size, ke.size)) zs (nums 0 vs) = some cs.toArray := by
      intro zs hz
      have hz' : zs = zs.toList.toArray := by simp
      rw [hz']
      apply fill_eq
      rw [fill_parts ke.size vs 0 zs.toList [] hv' (by simp [hz, hm]) (by simp), hcs]
      simp
    have : (execOp a.eval ⟨some d, .buildSlice t m parts, ty, pos, after, g⟩).run P w = .ok (.value (.slice (some ⟨w.heap.size, 0, none⟩) m m)) (w.alloc (.cells cs.toArray e)) := by
      unfold execOp
      simp only [Instr.buildSlice, Sem.run_bind, run_underlying hu, Result.andThen_ok, (tyk_ok hke).sizeOf w, hparts]
      rw [if_neg (by omega), if_neg h0']
      simp only [Sem.run_bind, (tyk_ok hke).zeroRun w, Result.andThen_ok, Sem.run_pure]
      have := hfill ((Array.range (m * ke.size)).map (fun x => ke.zero.cells[x % ke.zero.cells.size]!)) (by simp)
      rw [this]
      simp [newRow, newObj]
      rfl
    rw [this]
    exact hK _ _ _ trivial (fun _ => (Below.refl _ _).alloc (Nat.le_refl _) _) (hf.put hn _) (hs.blk e cs)⟩
end
/-- A block that holds elements, as a slice. -/
theorem Slc.ofBlk {α : Type} [Enc α] {H : Hp} {b m : Nat} {T : TypeId} {els : List α} {cs : List Value} (hcs : cs = encs els) (hm : els.length = m) (hb : m ≤ 9223372036854775807) (hg : ∀ x ∈ els, Enc.good (H.put b (.cells cs.toArray T (0, 0))) x) : (⟨some ⟨b, 0, none⟩, m, m, els⟩ : Slc α).Good (H.put b (.cells cs.toArray T (0, 0))) := by
  subst hcs
  refine ⟨hm, Nat.le_refl _, hb, fun _ => rfl, fun k x hk j v hj => ?_, hg⟩
  have h1 := encs_get els k j x v hk hj
  have := Hp.put_cells (H := H) (b := b) (T := T) (cs := encs els) (k * Enc.size α + j) v h1
  show Hp.cell _ b (0 + k * Enc.size α + j) = some v
  rw [Nat.zero_add] at *
  exact this
end Go.Proofs.YtfbhcemlnojejaaDoor
