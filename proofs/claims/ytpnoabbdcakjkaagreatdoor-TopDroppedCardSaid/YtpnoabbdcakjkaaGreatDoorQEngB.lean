/- An engine for walks: rows of bytes. -/
import Derived.Test.YtpnoabbdcakjkaaGreatDoorQEngC
import Derived.Test.YtpnoabbdcakjkaaGreatDoorQSpecF
import Derived.Lib.AppendStr
import Derived.Lib.ConvBytes
namespace Go.Proofs.YtpnoabbdcakjkaaGreatDoor
set_option linter.unusedVariables false
set_option linter.unusedSimpArgs false
open Go Go.RowKit
open Enc (enc)
set_option linter.unusedSectionVars false
instance : Enc UInt8 where
  size := 1
  enc c := [.int .u8 c.toNat]
  good _ _ := True
  len _ := rfl
  mono _ h := h
  one _ := rfl
  pos := by decide
theorem strCells_encs (l : Bytes) : Lib.strCells ⟨l.toArray⟩ = encs l := by
  simp only [Lib.strCells, encs]
  induction l with
  | nil => rfl
  | cons c l ih =>
    simp only [List.map_cons, List.flatMap_cons]
    rw [ih]
    rfl
theorem encs_byte (l : Bytes) : (encs l).length = l.length := by rw [encs_length]; exact Nat.mul_one _
abbrev byR (e : TypeId) (v : Value) (l : Bytes) : Loc := .row v e 1 l.length (encs l)
section
variable {P : Program} {n : FK} {w0 : World} {H0 H : Hp} {S : World → Prop} {env : List (Nat × Value)} {L : List Loc}
theorem X.appendBy [Tys P] (i : Nat) {d : Nat} {t e ty : TypeId} {x y : Operand} {pos : String} {after : Array Edge} {g : Option (Nat × Bool)} {k ke : TyK} {v : Value} {c b : Nat} {l : Bytes} {u : UInt8} {T' : TypeId} (hn : Nat.blt d n.n = true) (hk : tyk P t = some k) (hd : k.desc = .slice e) (hke : tyk P e = some ke) (h1 : ke.size = 1) (h8 : ke.bytes = 1) (hz : Nat.beq ke.zero.cells.size ke.size = true)
    (hx : ev env x = some v) (hi : L[i]? = some (byR e v l)) (hy : ev env y = some (.slice (some ⟨b, 0, none⟩) 1 c)) (hm : Loc.blk b T' [.int .u8 u.toNat] ∈ L) (hb : l.length ≤ 100000000) :
    X P n w0 H0 env H L ⟨some d, .call { callee := .builtin .append, args := #[x, y], argTypes := #[t, t] }, ty, pos, after, g⟩ false (G := Value) (fun _ => True) (fun v' => (d, v') :: env) (fun _ => H) (fun v' => L.set i (byR e v' (l ++ [u]))) :=
  ⟨fun a w hf hs K Q hK => by
    have hi' : L[i]? = some (.row v e ke.size l.length (encs l)) := by rw [h1]; exact hi
    refine (X.append i (j := 1) (news := [.int .u8 u.toNat]) (pos := pos) (after := after) (g := g) (ty := ty) hn hk hd hke (by rw [h1]; rfl) hz hx hi' hy hm (by rw [h1]; rfl) rfl (by rw [h8]; omega) (by omega)).out a w hf hs K Q fun v' a' w' _ hg' hf' hs' => ?_
    refine hK v' a' w' trivial hg' hf' ?_
    have e1 : byR e v' (l ++ [u]) = .row v' e ke.size (l.length + 1) (encs l ++ [.int .u8 u.toNat]) := by
      simp only [byR, List.length_append, List.length_cons, List.length_nil, encs_append, h1]
      rfl
    rw [e1]
    exact hs'⟩
theorem X.appendStr [Tys P] (i : Nat) {d : Nat} {t e ts ty : TypeId} {x y : Operand} {pos : String} {after : Array Edge} {g : Option (Nat × Bool)} {k ke ks : TyK} {v : Value} {l s : Bytes} (hn : Nat.blt d n.n = true) (hk : tyk P t = some k) (hd : k.desc = .slice e) (hke : tyk P e = some ke) (hks : tyk P ts = some ks) (hds : ks.desc = .str) (h1 : ke.size = 1) (h8 : ke.bytes = 1) (hz : ke.zero = .int .u8 0)
    (hx : ev env x = some v) (hi : L[i]? = some (byR e v l)) (hy : ev env y = some (strV s)) (hb : l.length + s.length ≤ 100000000) :
    X P n w0 H0 env H L ⟨some d, .call { callee := .builtin .append, args := #[x, y], argTypes := #[t, ts] }, ty, pos, after, g⟩ false (G := Value) (fun _ => True) (fun v' => (d, v') :: env) (fun _ => H) (fun v' => L.set i (byR e v' (l ++ s))) :=
  ⟨fun a w hf hs K Q hK => by
    obtain ⟨dd, hu, hf'⟩ := (tyk_ok hk).und
    rw [hd] at hf'
    simp only [TyD.fits] at hf'
    subst hf'
    obtain ⟨ds, hus, hfs⟩ := (tyk_ok hks).und
    rw [hds] at hfs
    simp only [TyD.fits] at hfs
    subst hfs
    obtain ⟨inf, hinf, e1, e2, e3⟩ := (tyk_ok hke).get
    have hown : w.ownsRow w0.heap.size e 1 v l.length (encs l) := hs.ok _ (List.mem_of_getElem? hi)
    have hsz : (⟨s.toArray⟩ : ByteArray).size = s.length := rfl
    obtain ⟨v', w', hrun, hown', hgr, hnil⟩ := Lib.run_append_own_string (P := P) w w0.heap.size t ts ty e inf hu hus hinf (by rw [e3, hz]) (by rw [e1, h1]) (by rw [e2, h8]) v l.length (encs l) hown ⟨s.toArray⟩ (by simp only [hsz, maxLen]; omega) (by rw [hsz]; omega) hs.below.size
    have hat : v'.ownBlock = v.ownBlock ∨ v'.ownBlock = some w.heap.size := by
      have h63 : l.length + (⟨s.toArray⟩ : ByteArray).size ≤ 9223372036854775807 := by rw [hsz]; omega
      rcases hown.2 with ⟨rfl, h0⟩ | ⟨g, cap, cur, rfl, hbg, hg, hnc, hcm, hcs, htake⟩
      · by_cases hm : (⟨s.toArray⟩ : ByteArray).size = 0
        · rw [hnil.2 ⟨rfl, hm⟩]; exact .inl rfl
        · have hr := run_append_nil_string (P := P) w t ts ty e inf (.int .u8 0) hu hus hinf (by rw [e3, hz]) ⟨s.toArray⟩ (by omega) (by omega) (by rw [e2, h8, hsz]; omega)
          rw [hrun] at hr
          cases hr
          exact .inr rfl
      · by_cases hroom : l.length + (⟨s.toArray⟩ : ByteArray).size ≤ cap
        · have hr := Lib.run_append_room_string (P := P) w t ts ty e inf hu hus hinf (by rw [e1, h1]) g l.length cap cur hg ⟨s.toArray⟩ hroom (by rw [hcs]; omega)
          rw [hrun] at hr
          cases hr
          exact .inl rfl
        · have hr := Lib.run_append_grow_string (P := P) w t ts ty e inf (.int .u8 0) hu hus hinf (by rw [e3, hz]) ⟨g, 0, none⟩ l.length cap (encs l) (by rw [e1, h1]; simpa using hown.1) (hown.cells (g := g) rfl) ⟨s.toArray⟩ (by omega) (by omega) (by rw [e2, h8, hsz]; exact growslice_fits (by omega) (by omega))
          rw [hrun] at hr
          cases hr
          exact .inr rfl
    have hst := hs.turn (e' := .row v' e 1 (l.length + s.length) (encs l ++ Lib.strCells ⟨s.toArray⟩)) hi hgr hat hown'
    unfold Oper.wp
    rw [run_appendOp (v := v) (u := strV s) rfl (hf.ev hx) (hf.ev hy) hrun]
    refine hK v' _ _ trivial (fun h => by cases h) (hf.put hn _) ?_
    have e4 : byR e v' (l ++ s) = .row v' e 1 (l.length + s.length) (encs l ++ Lib.strCells ⟨s.toArray⟩) := by
      simp only [byR, List.length_append, encs_append, strCells_encs]
    rw [e4]
    exact hst⟩
theorem V.convW [Tys P] {s t : TypeId} {x : Operand} {i j : Int} {q r : IntKind} {k ks : TyK} (hks : tyk P s = some ks) (hk : tyk P t = some k) (hd : k.desc = .int r) (hx : ev env x = some (.int q i)) (hi : r.wrap i = j) : V P n S env (.convert s t x) (.int r j) :=
  ⟨fun o a w ho hf _ => by
    obtain ⟨d, hu, hf'⟩ := (tyk_ok hk).und
    rw [hd] at hf'
    simp only [TyD.fits] at hf'
    subst hf'
    obtain ⟨d2, hu2, _⟩ := (tyk_ok hks).und
    unfold execOp; rw [ho]
    simp [hf.ev hx, convert, run_underlying hu, run_underlying hu2, Conv.intToInt, hi]⟩
theorem V.shrU {t u : TypeId} {x y : Operand} {r : IntKind} {i j : Int} (hx : ev env x = some (.int .u64 i)) (hy : ev env y = some (.int r j)) (hj : 0 ≤ j ∧ j < 64) : V P n S env (.binOp .shr t x y u) (.int .u64 (i.fdiv (2 ^ j.toNat))) :=
  ⟨fun o A w ho hf _ => by
    have h64 : Min.min j.toNat IntKind.u64.bits = j.toNat := Nat.min_eq_left (by show j.toNat ≤ 64; omega)
    unfold execOp; rw [ho]
    simp [hf.ev hx, hf.ev hy, binOp, eqGuard, Op.shift, show ¬ j < 0 by omega, h64]
    exact (Int.fdiv_eq_ediv_of_nonneg _ (Int.le_of_lt (Int.pow_pos (by decide)))).symm⟩
theorem V.xorU {t u : TypeId} {x y : Operand} {i : Int} {c : UInt8} (hx : ev env x = some (.int .u64 i)) (hy : ev env y = some (.int .u64 c.toNat)) (hi : 0 ≤ i ∧ i < 18446744073709551616) : V P n S env (.binOp .xor t x y u) (.int .u64 ((Nat.xor i.toNat c.toNat : Nat) : Int)) :=
  ⟨fun o A w ho hf _ => by
    have hc : c.toNat < 256 := c.toNat_lt
    have e1 : ((BitVec.ofInt 64 i).toNat) = i.toNat := by
      rw [BitVec.toNat_ofInt]
      omega
    have e2 : ((BitVec.ofInt 64 (c.toNat : Int)).toNat) = c.toNat := by
      rw [BitVec.toNat_ofInt]
      omega
    have hlt : Nat.xor i.toNat c.toNat < 2 ^ 64 := Nat.xor_lt_two_pow (by omega) (by omega)
    have e3 : (BitVec.ofInt 64 i ^^^ BitVec.ofInt 64 (c.toNat : Int)).toNat = Nat.xor i.toNat c.toNat := by
      rw [BitVec.toNat_xor, e1, e2]; rfl
    have e4 : IntKind.u64.wrap ((Nat.xor i.toNat c.toNat : Nat) : Int) = ((Nat.xor i.toNat c.toNat : Nat) : Int) := IntWalk.u64_in _ (by omega)
    unfold execOp; rw [ho]
    simp only [hf.ev hx, hf.ev hy, binOp, eqGuard, Op.intBits]
    simp [IntKind.bits, -BitVec.toNat_xor]
    have e5 : BitVec.ofNat 64 c.toNat = BitVec.ofInt 64 (c.toNat : Int) := rfl
    show IntKind.u64.wrap ((BitVec.toNat (w := 64) (BitVec.ofInt 64 i ^^^ BitVec.ofNat 64 c.toNat) : Nat) : Int) = _
    rw [e5, e3]
    exact e4⟩
theorem V.mulU {t u : TypeId} {x y : Operand} {i j m : Int} (hx : ev env x = some (.int .u64 i)) (hy : ev env y = some (.int .u64 j)) (hm : IntKind.u64.wrap (i * j) = m) : V P n S env (.binOp .mul t x y u) (.int .u64 m) :=
  ⟨fun o a w ho hf _ => by unfold execOp; rw [ho]; simp [hf.ev hx, hf.ev hy, binOp, eqGuard, Op.intArith, hm]⟩
/-- A string's bytes as a row of their own, that nobody writes. -/
theorem X.strBytes [Tys P] {d : Nat} {t e ts ty : TypeId} {x : Operand} {pos : String} {after : Array Edge} {g : Option (Nat × Bool)} {k ke ks : TyK} {s : Bytes} (hn : Nat.blt d n.n = true) (hk : tyk P t = some k) (hd : k.desc = .slice e) (hke : tyk P e = some ke) (h8 : ke.desc = .int .u8) (hks : tyk P ts = some ks) (hds : ks.desc = .str)
    (hx : ev env x = some (strV s)) (hb : s.length ≤ 100000000) :
    X P n w0 H0 env H L ⟨some d, .convert ts t x, ty, pos, after, g⟩ true (G := Hp × Slc UInt8) (fun p => p.2.Good p.1 ∧ p.2.els = s ∧ H.le p.1) (fun p => (d, p.2.v) :: env) (fun p => p.1) (fun _ => L) :=
  ⟨fun a w hf hs K Q hK => by
    obtain ⟨dd, hu, hf'⟩ := (tyk_ok hk).und
    rw [hd] at hf'
    simp only [TyD.fits] at hf'
    subst hf'
    obtain ⟨ds, hus, hfs⟩ := (tyk_ok hks).und
    obtain ⟨de, hue, hfe⟩ := (tyk_ok hke).und
    rw [h8] at hfe
    simp only [TyD.fits] at hfe
    subst hfe
    have hrun := Lib.run_convert_string_bytes (P := P) w ts t e ⟨s.toArray⟩ hus hu hue
    have hsz : (⟨s.toArray⟩ : ByteArray).size = s.length := rfl
    obtain ⟨o, ho⟩ : ∃ o, (Lib.bytesWorld w e ⟨s.toArray⟩).heap[w.heap.size]? = some o := ⟨_, Lib.bytesWorld_at_new w e ⟨s.toArray⟩⟩
    have hbel : Below w.heap.size w (Lib.bytesWorld w e ⟨s.toArray⟩) := by
      refine ⟨rfl, rfl, rfl, ?_, fun j hj => Lib.bytesWorld_at_old w e _ j hj⟩
      rw [Lib.bytesWorld_size]; omega
    have hnone : H w.heap.size = none := by
      cases hh : H w.heap.size with
      | none => rfl
      | some y => exact absurd (hs.sat.lt (k := w.heap.size) (by rw [hh]; simp)) (Nat.lt_irrefl _)
    have hg := hs.grow hbel
    have hst : St w0 H0 (H.put w.heap.size o) L (Lib.bytesWorld w e ⟨s.toArray⟩) := by
      refine ⟨hg.below, fun q y hq => ?_, hs.le.trans (Hp.put_le H o hnone), fun q h0 h1 => ?_, hg.ok, fun f hf' c hc => ?_, hs.apart⟩
      · unfold Hp.put at hq
        by_cases e : q = w.heap.size
        · subst e; rw [if_pos rfl] at hq; cases hq; exact ho
        · rw [if_neg e] at hq; exact hg.sat q y hq
      · unfold Hp.put at h1
        by_cases e : q = w.heap.size
        · subst e; exact hs.below.size
        · rw [if_neg e] at h1; exact hs.new q h0 h1
      · unfold Hp.put
        have := ((hs.ok f hf').lt hc).1
        rw [if_neg (by omega)]
        exact hs.out f hf' c hc
    have hgood : (⟨some ⟨w.heap.size, 0, none⟩, s.length, grownCap w s.length 0 e, s⟩ : Slc UInt8).Good (H.put w.heap.size o) := by
      refine ⟨rfl, grownCap_ge w s.length 0 e, ?_, fun _ => rfl, fun q c hq => ?_, fun _ _ => trivial⟩
      · have := grownCap_le_maxLen w s.length 0 e (by simp only [maxLen]; omega)
        simp only [maxLen] at this
        exact Nat.le_trans this (by decide)
      · intro j v hv
        have hlt : q < s.length := (List.getElem?_eq_some_iff.1 hq).1
        have hc : s[q] = c := (List.getElem?_eq_some_iff.1 hq).2
        have hj : j = 0 ∧ v = .int .u8 c.toNat := by
          cases j with
          | zero => simp [Enc.enc] at hv; exact ⟨rfl, hv.symm⟩
          | succ j => simp [Enc.enc] at hv
        obtain ⟨rfl, rfl⟩ := hj
        have hcell := Lib.bytesWorld_cell w e ⟨s.toArray⟩ q hlt
        have hcell' : (Lib.bytesWorld w e ⟨s.toArray⟩).cell? ⟨w.heap.size, q, none⟩ = some (.int .u8 c.toNat) := by
          rw [hcell]
          simp [List.getD, List.getElem?_eq_getElem hlt, hc]
        unfold Hp.cell Hp.put
        rw [show (⟨some ⟨w.heap.size, 0, none⟩, s.length, grownCap w s.length 0 e, s⟩ : Slc UInt8).b = w.heap.size from rfl, if_pos rfl]
        unfold World.cell? at hcell'
        rw [show (⟨w.heap.size, q, none⟩ : Addr).block = w.heap.size from rfl, ho] at hcell'
        rw [show (⟨some ⟨w.heap.size, 0, none⟩, s.length, grownCap w s.length 0 e, s⟩ : Slc UInt8).o + q * Enc.size UInt8 + 0 = q by show 0 + q * 1 + 0 = q; omega]
        cases o <;> simp_all
    unfold Oper.wp
    have hexec : (execOp a.eval ⟨some d, .convert ts t x, ty, pos, after, g⟩).run P w = .ok (.value (.slice (some ⟨w.heap.size, 0, none⟩) s.length (grownCap w s.length 0 e))) (Lib.bytesWorld w e ⟨s.toArray⟩) := by
      unfold execOp
      simp only [hf.ev hx, Sem.run_bind, strV]
      rw [hrun]
      rfl
    rw [hexec]
    exact hK (_, ⟨some ⟨w.heap.size, 0, none⟩, s.length, grownCap w s.length 0 e, s⟩) _ _ ⟨hgood, rfl, Hp.put_le H o hnone⟩ (fun _ => hbel) (hf.put hn _) hst⟩
/-- A contract for the head of the call's own, at any place. -/
theorem CallsIn.at_ {f : FuncId} {args : Array Value} {G : Type} {φ : G → Prop} {v : G → Value} {HH : G → Hp} {e : Loc} {e' : G → Loc} (i : Nat) {w : World} (hs : St w0 H0 H L w) (hi : L[i]? = some e)
    (h : St w0 H0 H (e :: L.eraseIdx i) w → CallsIn (FW none) 0 P f args w (fun en w' => ∃ g, φ g ∧ en = .returned (v g) ∧ St w0 H0 (HH g) (e' g :: L.eraseIdx i) w')) :
    CallsIn (FW none) 0 P f args w (fun en w' => ∃ g, φ g ∧ en = .returned (v g) ∧ St w0 H0 (HH g) (L.set i (e' g)) w') :=
  CallsIn.mono (h (hs.perm (perm_of hi))) fun en w' ⟨g, h1, h2, h3⟩ => ⟨g, h1, h2, h3.perm (by
    have hlt : i < L.length := (List.getElem?_eq_some_iff.1 hi).1
    have := perm_of (l := L.set i (e' g)) (i := i) (x := e' g) (by simp [hlt])
    rw [List.eraseIdx_set_eq] at this
    exact this.symm)⟩
/-- The slice of an array. -/
theorem V.sliceArr [Tys P] {t e : TypeId} {x : Operand} {b m : Nat} {k ke : TyK} (hk : tyk P t = some k) (hd : k.desc = .array m e) (hke : tyk P e = some ke) (hx : ev env x = some (.pointer (some ⟨b, 0, none⟩))) : V P n S env (.slice t x none none none) (.slice (some ⟨b, 0, none⟩) m m) :=
  ⟨fun o A w ho hf _ => by
    obtain ⟨d, hu, hf'⟩ := (tyk_ok hk).und
    rw [hd] at hf'
    simp only [TyD.fits] at hf'
    subst hf'
    unfold execOp; rw [ho]
    simp [hf.ev hx, Instr.sliceAt, Instr.slice, Instr.sliceBounds, run_underlying hu, Instr.sureAddr, (tyk_ok hke).sizeOf w]
    exact fun _ => by simp [Addr.add]⟩
end
end Go.Proofs.YtpnoabbdcakjkaaGreatDoor
namespace Go.Proofs.YtpnoabbdcakjkaaGreatDoor
set_option linter.unusedVariables false
set_option linter.unusedSimpArgs false
open Go Go.RowKit
open Enc (enc)
end Go.Proofs.YtpnoabbdcakjkaaGreatDoor
namespace Go.Proofs.YtpnoabbdcakjkaaGreatDoor
set_option linter.unusedVariables false
set_option linter.unusedSimpArgs false
open Go Go.RowKit
open Enc (enc)
end Go.Proofs.YtpnoabbdcakjkaaGreatDoor
