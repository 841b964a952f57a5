import Derived.Test.YthabgdbhgcgemaaGreatDoorQData
import Derived.Deep.Slices
import Derived.Test.YthabgdbhgcgemaaGreatDoorQEng
import Derived.Test.YthabgdbhgcgemaaGreatDoorQTy
import Derived.OpenShut
import Derived.Test.YthabgdbhgcgemaaGreatDoorRows
import Derived.WalkKit
import Derived.ProofKit
import Derived.Carry
namespace Go.Proofs.YthabgdbhgcgemaaGreatDoor
set_option linter.unusedVariables false
set_option linter.unusedSimpArgs false
open Go
open Enc (enc)
section
variable {P : Program} {w : World} {base : Nat} {sp : Nat → Bool} {held : Bool}
def Dec (P : Program) (w : World) (base : Nat) (sp : Nat → Bool) (held : Bool) (α : Type) [Enc α] (t : TypeId) : Prop :=
  ∀ {R : Type} (en : TypeId × Value → R) (fuel : Nat) (cs : List Value) (x : DataW R × List MemPlace), DataW.trod en P w base sp held fuel t cs = some x → ∃ a : α, cs = enc a ∧ Enc.good (heapOf w) a
theorem dec_int {R : Type} {en : TypeId × Value → R} {fuel : Nat} {cs : List Value} {x : DataW R × List MemPlace} {t : TypeId} (ht : P.underlying t = some (.int .i64)) (h : DataW.trod en P w base sp held fuel t cs = some x) : ∃ n, cs = [intV n] ∧ I64 n := by
  obtain ⟨n, rfl, _, hw⟩ := DataW.trod_int ht h
  refine ⟨n, rfl, ?_⟩
  simp only [Lit.wf, Bool.and_eq_true, decide_eq_true_eq] at hw
  exact hw
theorem dec_u64 {R : Type} {en : TypeId × Value → R} {fuel : Nat} {cs : List Value} {x : DataW R × List MemPlace} {t : TypeId} (ht : P.underlying t = some (.int .u64)) (h : DataW.trod en P w base sp held fuel t cs = some x) : ∃ n, cs = [.int .u64 n] ∧ (0 ≤ n ∧ n < 18446744073709551616) := by
  obtain ⟨n, rfl, _, hw⟩ := DataW.trod_int ht h
  refine ⟨n, rfl, ?_⟩
  simp only [Lit.wf, Bool.and_eq_true, decide_eq_true_eq] at hw
  have h1 : (0 : Int) ≤ n := hw.1
  have h2 : n ≤ 18446744073709551615 := hw.2
  omega
theorem dec_bool {R : Type} {en : TypeId × Value → R} {fuel : Nat} {cs : List Value} {x : DataW R × List MemPlace} {t : TypeId} (ht : P.underlying t = some .bool) (h : DataW.trod en P w base sp held fuel t cs = some x) : ∃ b, cs = [.bool b] := by
  obtain ⟨b, rfl, _⟩ := DataW.trod_bool ht h
  exact ⟨b, rfl⟩
theorem dec_str {R : Type} {en : TypeId × Value → R} {fuel : Nat} {cs : List Value} {x : DataW R × List MemPlace} {t : TypeId} (ht : P.underlying t = some .string) (h : DataW.trod en P w base sp held fuel t cs = some x) : ∃ l, cs = [strV l] ∧ LenOk l := by
  obtain ⟨s, rfl, _, hs⟩ := DataW.trod_string ht h
  refine ⟨s.data.toList, rfl, ?_⟩
  have h1 : s.data.toList.length = s.size := by rw [Array.length_toList]; rfl
  have h2 : s.size ≤ 9223372036854775807 := hs
  show s.data.toList.length ≤ _
  omega
theorem cells_of {a : Addr} {n : Nat} {cs : List Value} (hs : a.spot = none) (h : w.cells? base a n = some cs) : (heapOf w).cells a.block a.off cs := by
  obtain ⟨_, hl, hc⟩ := World.cells?_some h
  intro j v hj
  have hjn : j < n := by
    rw [← hl]; exact (List.getElem?_eq_some_iff.1 hj).1
  have h1 : w.cell? (a.add j) = some v := by rw [hc j hjn]; exact hj
  unfold World.cell? at h1
  unfold Hp.cell heapOf
  have hb : (a.add j).block = a.block := by unfold Addr.add; split <;> rfl
  have ho : (a.add j).off = a.off + j := by
    unfold Addr.add; split
    · next h0 => rw [h0]; rfl
    · rfl
  rw [hb] at h1
  cases hw : w.heap[a.block]? with
  | none => rw [hw] at h1; simp at h1
  | some o =>
    rw [hw] at h1
    cases o with
    | cells c e f =>
      simp only at h1 ⊢
      split at h1
      · cases h1
      · rw [ho] at h1; exact h1
    | _ => simp at h1
theorem dec_slice {R : Type} {en : TypeId × Value → R} {fuel : Nat} {cs : List Value} {x : DataW R × List MemPlace} {α : Type} [Enc α] {t e : TypeId} (ht : P.underlying t = some (.slice e)) (hc : P.cellsOf e = Enc.size α) (hd : Dec P w base sp held α e) (h : DataW.trod en P w base sp held fuel t cs = some x) :
    ∃ s : Slc α, cs = [.slice s.A s.len s.cap] ∧ s.Good (heapOf w) := by
  rcases Deep.open_slice ht h with ⟨rfl, _⟩ | ⟨a, len, cap, m, n, D, Pl, rfl, hb, hl, hm, hmm, _, hall⟩
  · exact ⟨Slc.nil _, rfl, Slc.nil_good⟩
  have hlm : len ≤ m := by rw [hmm]; split <;> omega
  have hpos := Enc.pos (α := α)
  have hel : ∀ i, i < len → ∃ y : α, (w.cells? base (a.add (i * P.cellsOf e)) (P.cellsOf e) = some (enc y)) ∧ Enc.good (heapOf w) y := by
    intro i hi
    obtain ⟨cs', h1, h2⟩ := hall i (by omega)
    obtain ⟨y, rfl, hy⟩ := hd en _ _ _ h2
    exact ⟨y, h1, hy⟩
  have hels : ∃ els : List α, els.length = len ∧ ∀ i y, els[i]? = some y → (w.cells? base (a.add (i * P.cellsOf e)) (P.cellsOf e) = some (enc y)) ∧ Enc.good (heapOf w) y := by
    refine ⟨List.ofFn fun i : Fin len => Classical.choose (hel i.1 i.2), List.length_ofFn, fun i y hy => ?_⟩
    obtain ⟨hi, hv⟩ := List.getElem?_eq_some_iff.1 hy
    have hi' : i < len := by simpa using hi
    have := Classical.choose_spec (hel i hi')
    rw [List.getElem_ofFn] at hv
    rw [← hv]
    exact this
  obtain ⟨els, hlen, hels⟩ := hels
  have hspot : 0 < len → a.spot = none := by
    intro h0
    obtain ⟨cs', h1, _⟩ := hall 0 (by omega)
    obtain ⟨_, hl1, hc1⟩ := World.cells?_some h1
    have hp : 0 < P.cellsOf e := by rw [hc]; exact hpos
    have h2 := hc1 0 hp
    have h3 : cs'[0]? = some (cs'[0]'(by omega)) := List.getElem?_eq_getElem _
    rw [h3] at h2
    have := World.cell?_spot h2
    simpa [Addr.add] using this
  refine ⟨⟨some a, len, cap, els⟩, rfl, hlen, hl, hm, fun h0 => ?_, fun k y hk => ?_, fun y hy => ?_⟩
  · have := hspot h0
    obtain ⟨b, o, s⟩ := a
    simp only at this
    subst this
    rfl
  · have hk' : k < len := by rw [← hlen]; exact (List.getElem?_eq_some_iff.1 hk).1
    have h1 := (hels k y hk).1
    have h0 := hspot (by omega)
    have h2 := cells_of (by unfold Addr.add; split <;> first | exact h0 | rfl) h1
    have hb' : (a.add (k * P.cellsOf e)).block = a.block := by unfold Addr.add; split <;> rfl
    have ho : (a.add (k * P.cellsOf e)).off = a.off + k * P.cellsOf e := by
      unfold Addr.add; split
      · next h0 => rw [h0]; rfl
      · rfl
    rw [hb', ho, hc] at h2
    exact h2
  · obtain ⟨i, hi⟩ := List.getElem?_of_mem hy
    exact (hels i y hi).2
end
end Go.Proofs.YthabgdbhgcgemaaGreatDoor
namespace Go.Proofs.YthabgdbhgcgemaaGreatDoor
set_option linter.unusedVariables false
set_option linter.unusedSimpArgs false
open Go
open Enc (enc)
theorem TyOk.cells {P : Program} {t : TypeId} {k : TyK} (h : TyOk P t k) : P.cellsOf t = k.size := by
  obtain ⟨i, h1, h2, _⟩ := h.get
  unfold Program.cellsOf
  rw [h1]
  simp [h2]
section
variable {P : Program} [Tys P] {w : World} {base : Nat} {sp : Nat → Bool} {held : Bool} {R : Type} {en : TypeId × Value → R} {fuel : Nat} {cs : List Value} {x : DataW R × List MemPlace} {t : TypeId} {k : TyK}
theorem dec_fields {fs : List (Nat × Nat × TypeId)} (hk : tyk P t = some k) (hd : k.desc = .struct fs) (h : DataW.trod en P w base sp held fuel t cs = some x) :
    cs.length = k.size ∧ ∃ n, ∀ (i : Nat) f, fs[i]? = some f → ∃ y, DataW.trod en P w base sp held n f.2.2 ((cs.drop f.1).take f.2.1) = some y := by
  have ok := tyk_ok hk
  obtain ⟨d, hu, hf⟩ := ok.und
  rw [hd] at hf
  obtain ⟨fields, rfl, hfs⟩ := hf
  obtain ⟨xs, n, _, _, hl, hlen, hall⟩ := DataW.trod_struct hu h
  refine ⟨hl.trans ok.cells, n, fun i f hi => ?_⟩
  rw [← hfs, List.getElem?_map, Option.map_eq_some_iff] at hi
  obtain ⟨g, hg, rfl⟩ := hi
  have hg' : fields[i]? = some g := by simpa using hg
  have h1 := hall i g hg'
  have hi2 : i < xs.length := by rw [hlen]; exact (Array.getElem?_eq_some_iff.1 hg').1
  exact ⟨xs[i], h1.trans (List.getElem?_eq_getElem hi2)⟩
theorem decInt (hk : tyk P t = some k) (hd : k.desc = .int .i64) (h : DataW.trod en P w base sp held fuel t cs = some x) : ∃ n, cs = [intV n] ∧ I64 n := by
  obtain ⟨d, hu, hf⟩ := (tyk_ok hk).und
  rw [hd] at hf
  cases hf
  exact dec_int hu h
theorem decU64 (hk : tyk P t = some k) (hd : k.desc = .int .u64) (h : DataW.trod en P w base sp held fuel t cs = some x) : ∃ n, cs = [.int .u64 n] ∧ (0 ≤ n ∧ n < 18446744073709551616) := by
  obtain ⟨d, hu, hf⟩ := (tyk_ok hk).und
  rw [hd] at hf
  cases hf
  exact dec_u64 hu h
theorem decStr (hk : tyk P t = some k) (hd : k.desc = .str) (h : DataW.trod en P w base sp held fuel t cs = some x) : ∃ l, cs = [strV l] ∧ LenOk l := by
  obtain ⟨d, hu, hf⟩ := (tyk_ok hk).und
  rw [hd] at hf
  cases hf
  exact dec_str hu h
theorem decSlice {α : Type} [Enc α] {e : TypeId} {ke : TyK} (hk : tyk P t = some k) (hd : k.desc = .slice e) (hke : tyk P e = some ke) (hs : ke.size = Enc.size α) (hde : Dec P w base sp held α e) (h : DataW.trod en P w base sp held fuel t cs = some x) :
    ∃ s : Slc α, cs = [.slice s.A s.len s.cap] ∧ s.Good (heapOf w) := by
  obtain ⟨d, hu, hf⟩ := (tyk_ok hk).und
  rw [hd] at hf
  cases hf
  exact dec_slice hu ((tyk_ok hke).cells.trans hs) hde h
end
theorem joinL {cs a tail : List Value} {o k : Nat} (e : (cs.drop o).take k = a) (r : cs.drop (o + k) = tail) : cs.drop o = a ++ tail := by
  rw [← e, ← r, ← List.drop_drop, List.take_append_drop]
section
variable {w : World} {base : Nat} {sp : Nat → Bool} {held : Bool}
theorem decDatum : Dec Tryz.prog w base sp held Datum 79 := by
  intro R en fuel cs x h
  obtain ⟨hl, n, hf⟩ := dec_fields (t := 79) rfl rfl h
  obtain ⟨_, h0⟩ := hf 0 _ rfl
  obtain ⟨_, h1⟩ := hf 1 _ rfl
  obtain ⟨_, h2⟩ := hf 2 _ rfl
  obtain ⟨a0, e0, g0⟩ := decStr rfl rfl h0
  obtain ⟨a1, e1, g1⟩ := decInt rfl rfl h1
  obtain ⟨a2, e2, g2⟩ := decInt rfl rfl h2
  exact ⟨⟨a0, a1, a2⟩, joinL (o := 0) e0 (joinL e1 (joinL e2 (List.drop_eq_nil_of_le (Nat.le_of_eq hl)))), g0, g1, g2⟩
theorem decSig : Dec Tryz.prog w base sp held Sig 102 := by
  intro R en fuel cs x h
  obtain ⟨hl, n, hf⟩ := dec_fields (t := 102) rfl rfl h
  obtain ⟨_, h0⟩ := hf 0 _ rfl
  obtain ⟨_, h1⟩ := hf 1 _ rfl
  obtain ⟨_, h2⟩ := hf 2 _ rfl
  obtain ⟨_, h3⟩ := hf 3 _ rfl
  obtain ⟨_, h4⟩ := hf 4 _ rfl
  obtain ⟨_, h5⟩ := hf 5 _ rfl
  obtain ⟨a0, e0, g0⟩ := decStr rfl rfl h0
  obtain ⟨a1, e1, g1⟩ := decInt rfl rfl h1
  obtain ⟨a2, e2, g2⟩ := decInt rfl rfl h2
  obtain ⟨a3, e3, g3⟩ := decInt rfl rfl h3
  obtain ⟨a4, e4, g4⟩ := decInt rfl rfl h4
  obtain ⟨a5, e5, g5⟩ := decU64 rfl rfl h5
  exact ⟨⟨a0, a1, a2, a3, a4, a5⟩, joinL (o := 0) e0 (joinL e1 (joinL e2 (joinL e3 (joinL e4 (joinL e5 (List.drop_eq_nil_of_le (Nat.le_of_eq hl))))))), g0, g1, g2, g3, g4, g5⟩
theorem decSet : Dec Tryz.prog w base sp held RSet 82 := by
  intro R en fuel cs x h
  obtain ⟨hl, n, hf⟩ := dec_fields (t := 82) rfl rfl h
  obtain ⟨_, h0⟩ := hf 0 _ rfl
  obtain ⟨_, h1⟩ := hf 1 _ rfl
  obtain ⟨_, h2⟩ := hf 2 _ rfl
  obtain ⟨_, h3⟩ := hf 3 _ rfl
  obtain ⟨a0, e0, g0⟩ := decStr rfl rfl h0
  obtain ⟨a1, e1, g1⟩ := decInt rfl rfl h1
  obtain ⟨a2, e2, g2⟩ := decInt rfl rfl h2
  obtain ⟨a3, e3, g3⟩ := decSlice (α := Datum) rfl rfl rfl rfl decDatum h3
  exact ⟨⟨a0, a1, a2, a3⟩, joinL (o := 0) e0 (joinL e1 (joinL e2 (joinL e3 (List.drop_eq_nil_of_le (Nat.le_of_eq hl))))), g0, g1, g2, g3⟩
theorem decSigned : Dec Tryz.prog w base sp held Signed 86 := by
  intro R en fuel cs x h
  obtain ⟨hl, n, hf⟩ := dec_fields (t := 86) rfl rfl h
  obtain ⟨_, h0⟩ := hf 0 _ rfl
  obtain ⟨_, h1⟩ := hf 1 _ rfl
  obtain ⟨a0, e0, g0⟩ := decSet _ _ _ _ h0
  obtain ⟨a1, e1, g1⟩ := decSlice (α := Sig) rfl rfl rfl rfl decSig h1
  exact ⟨⟨a0, a1⟩, joinL (o := 0) e0 (joinL e1 (List.drop_eq_nil_of_le (Nat.le_of_eq hl))), g0, g1⟩
end
end Go.Proofs.YthabgdbhgcgemaaGreatDoor
namespace Go.Proofs.YthabgdbhgcgemaaGreatDoor
set_option linter.unusedVariables false
set_option linter.unusedSimpArgs false
open Go
open Enc (enc)
section
variable {P : Program} [Tys P] {w : World} {base : Nat} {sp : Nat → Bool} {held : Bool} {R : Type} {en : TypeId × Value → R} {fuel : Nat} {cs : List Value} {x : DataW R × List MemPlace} {t : TypeId} {k : TyK}
theorem dec_fieldsD {fs : List (Nat × Nat × TypeId)} (hk : tyk P t = some k) (hd : k.desc = .struct fs) (h : DataW.trod en P w base sp held fuel t cs = some x) :
    cs.length = k.size ∧ ∃ n, ∃ xs : List (DataW R × List MemPlace), x.1 = .agg (xs.map (·.1)) ∧ xs.length = fs.length ∧ ∀ (i : Nat) f, fs[i]? = some f → DataW.trod en P w base sp held n f.2.2 ((cs.drop f.1).take f.2.1) = xs[i]? := by
  have ok := tyk_ok hk
  obtain ⟨d, hu, hf⟩ := ok.und
  rw [hd] at hf
  obtain ⟨fields, rfl, hfs⟩ := hf
  obtain ⟨xs, n, _, rfl, hl, hlen, hall⟩ := DataW.trod_struct hu h
  refine ⟨hl.trans ok.cells, n, xs, rfl, by rw [← hfs, List.length_map, hlen]; rfl, fun i f hi => ?_⟩
  rw [← hfs, List.getElem?_map, Option.map_eq_some_iff] at hi
  obtain ⟨g, hg, rfl⟩ := hi
  exact hall i g (by simpa using hg)
theorem decIntD (hk : tyk P t = some k) (hd : k.desc = .int .i64) (h : DataW.trod en P w base sp held fuel t cs = some x) : ∃ n, cs = [intV n] ∧ x.1 = .lit (.int .i64 n) := by
  obtain ⟨d, hu, hf⟩ := (tyk_ok hk).und
  rw [hd] at hf
  cases hf
  obtain ⟨n, rfl, rfl, _⟩ := DataW.trod_int hu h
  exact ⟨n, rfl, rfl⟩
omit [Tys P] in
theorem decBoolD (hu : P.underlying t = some .bool) (h : DataW.trod en P w base sp held fuel t cs = some x) : ∃ b, cs = [.bool b] ∧ x.1 = .lit (.bool b) := by
  obtain ⟨n, rfl, rfl⟩ := DataW.trod_bool hu h
  exact ⟨n, rfl, rfl⟩
end
def ruleD {R : Type} (r : Rule) : DataW R := .agg [.lit (.int .i64 r.text), .lit (.int .i64 r.leastN), .lit (.int .i64 r.mostN), .lit (.int .i64 r.leastM), .lit (.int .i64 r.mostM), .lit (.bool r.even), .lit (.bool r.single), .lit (.bool r.wild)]
theorem ruleD_inj {R : Type} {r s : Rule} (h : (ruleD r : DataW R) = ruleD s) : r = s := by
  obtain ⟨r1, r2, r3, r4, r5, r6, r7, r8⟩ := r
  obtain ⟨s1, s2, s3, s4, s5, s6, s7, s8⟩ := s
  simp only [ruleD, DataW.agg.injEq, List.cons.injEq, DataW.lit.injEq, Lit.int.injEq, Lit.bool.injEq, true_and, and_true] at h
  obtain ⟨rfl, rfl, rfl, rfl, rfl, rfl, rfl, rfl⟩ := h
  rfl
theorem list8 {α : Type} {l : List α} (h : l.length = 8) : ∃ a b c d e f g i, l = [a, b, c, d, e, f, g, i] := by
  match l, h with
  | [a, b, c, d, e, f, g, i], _ => exact ⟨a, b, c, d, e, f, g, i, rfl⟩
section
variable {w : World} {base : Nat} {sp : Nat → Bool} {held : Bool} {R : Type} {en : TypeId × Value → R}
set_option maxRecDepth 20000 in
theorem decRule {fuel : Nat} {cs : List Value} {x : DataW R × List MemPlace} (h : DataW.trod en Tryz.prog w base sp held fuel 195 cs = some x) : ∃ r : Rule, cs = r.cells ∧ x.1 = ruleD r := by
  obtain ⟨hl, n, xs, hx, hxl, hf⟩ := dec_fieldsD (t := 195) rfl rfl h
  obtain ⟨y0, y1, y2, y3, y4, y5, y6, y7, rfl⟩ := list8 hxl
  obtain ⟨a0, e0, g0⟩ := decIntD rfl rfl (hf 0 _ rfl)
  obtain ⟨a1, e1, g1⟩ := decIntD rfl rfl (hf 1 _ rfl)
  obtain ⟨a2, e2, g2⟩ := decIntD rfl rfl (hf 2 _ rfl)
  obtain ⟨a3, e3, g3⟩ := decIntD rfl rfl (hf 3 _ rfl)
  obtain ⟨a4, e4, g4⟩ := decIntD rfl rfl (hf 4 _ rfl)
  obtain ⟨a5, e5, g5⟩ := decBoolD Tryz.underlying4 (hf 5 _ rfl)
  obtain ⟨a6, e6, g6⟩ := decBoolD Tryz.underlying4 (hf 6 _ rfl)
  obtain ⟨a7, e7, g7⟩ := decBoolD Tryz.underlying4 (hf 7 _ rfl)
  refine ⟨⟨a0, a1, a2, a3, a4, a5, a6, a7⟩, joinL (o := 0) e0 (joinL e1 (joinL e2 (joinL e3 (joinL e4 (joinL e5 (joinL e6 (joinL e7 (List.drop_eq_nil_of_le (Nat.le_of_eq hl))))))))), ?_⟩
  rw [hx]
  simp only [List.map_cons, List.map_nil]
  rw [g0, g1, g2, g3, g4, g5, g6, g7]
  rfl
end
theorem rules_data {R : Type} : (Rows.laid_nameplan_record_rules : DataW R) = .agg ((List.range 9).map fun i => ruleD (ruleOf i)) := rfl
theorem gRules : Tryz.prog.globalNamed "nameplan/record.rules" = some 0 := by kernel_rfl
theorem gRulesT : (Tryz.prog.globals[0]?).map (·.type) = some 196 := by kernel_rfl
theorem rules_at {rest : List (String × DataW Unit)} {W : World} {ps : List MemPlace} (h : DataW.LaidVars Tryz.prog W (("nameplan/record.rules", Rows.laid_nameplan_record_rules) :: rest) ps) : Rules (heapOf W) := by
  obtain ⟨g, t, cs, fuel, p, q, hg, ht, hvar, hd, _, _⟩ := h
  obtain rfl := Option.some.inj (gRules.symm.trans hg)
  obtain rfl := Option.some.inj (gRulesT.symm.trans ht)
  obtain ⟨xs, m, _, hx, hl, hxl, hall⟩ := DataW.trod_array Tryz.underlying196 hd
  have hce : Tryz.prog.cellsOf 195 = 8 := by kernel_rfl
  intro i hi
  have h1 := hall i hi
  have hix : i < xs.length := by rw [hxl]; exact hi
  rw [List.getElem?_eq_getElem hix, hce] at h1
  obtain ⟨r, er, xr⟩ := decRule h1
  have h2 := congrArg Prod.fst hx
  have h3 : (Rows.laid_nameplan_record_rules : DataW Unit) = .agg (xs.map (·.1)) := h2
  rw [rules_data, DataW.agg.injEq] at h3
  have h4 := congrArg (fun l => l[i]?) h3
  simp only [List.getElem?_map, List.getElem?_range hi, List.getElem?_eq_getElem hix, Option.map_some] at h4
  have h5 : ruleOf i = r := ruleD_inj ((Option.some.inj h4).trans xr)
  rw [h5, ← er]
  intro j v hj
  have hj2 : j < 8 := by
    have := (List.getElem?_eq_some_iff.1 hj).1
    rw [List.length_take] at this
    omega
  rw [List.getElem?_take_of_lt hj2, List.getElem?_drop] at hj
  unfold World.var? at hvar
  rw [gRules] at hvar
  unfold Hp.cell heapOf
  cases hw : W.heap[0]? with
  | none => rw [Option.bind_some, hw] at hvar; cases hvar
  | some o =>
    rw [Option.bind_some, hw] at hvar
    cases o with
    | cells c e f =>
      obtain rfl := Option.some.inj hvar
      simpa using hj
    | _ => cases hvar
theorem rules_of {rest : List (String × DataW Unit)} {W : World} (h : laidMet Tryz.prog (("nameplan/record.rules", Rows.laid_nameplan_record_rules) :: rest) W) : Rules (heapOf W) := by
  obtain ⟨ps, h, _⟩ := h
  exact rules_at h
end Go.Proofs.YthabgdbhgcgemaaGreatDoor
namespace Go.Proofs.YthabgdbhgcgemaaGreatDoor
set_option linter.unusedVariables false
set_option linter.unusedSimpArgs false
open Go Go.RowKit Go.ChangeShapes Go.WideShapes
open Enc (enc)
theorem laidOut : laidOutB Tryz.prog = true := by kernel_rfl
section
variable {R : Type} {en : TypeId × Value → R} {P : Program} {W W' : World} {sp : Nat → Bool}
theorem trodAll_stays (hl : laidOutB P = true) : ∀ {ts : List TypeId} {vs : List Value} {ds : List (DataW R)} {ps : List MemPlace}, (∀ t ∈ ts, P.readableRec t = true ∧ t < P.types.size) →
    DataW.TrodAll en P W 0 (fun _ => true) true ts vs ds ps → (∀ p ∈ ps, W.sameAt W' p) → (∀ p ∈ ps, sp p.block = true) → DataW.TrodAll en P W' 0 sp true ts vs ds ps
  | [], vs, ds, ps, _, h, _, _ => by
    obtain ⟨rfl, rfl, rfl⟩ := trodAll_nil h
    exact trodAll_mk0
  | t :: ts, vs, ds, ps, ht, h, h1, h2 => by
    obtain ⟨v, vs', d, ds', p, q, rfl, rfl, rfl, h0, hr⟩ := trodAll_cons h
    have hh := ht t (List.Mem.head _)
    exact trodAll_cons_mk (WideElems.Trod_stays hl hh.1 hh.2 h0 (fun x hx => h1 x (List.mem_append_left _ hx)) (fun x hx => h2 x (List.mem_append_left _ hx)))
      (trodAll_stays hl (fun u hu => ht u (List.Mem.tail _ hu)) hr (fun x hx => h1 x (List.mem_append_right _ hx)) (fun x hx => h2 x (List.mem_append_right _ hx)))
theorem trodAll_len : ∀ {ts : List TypeId} {vs : List Value} {ds : List (DataW R)} {ps : List MemPlace}, DataW.TrodAll en P W 0 (fun _ => true) true ts vs ds ps → ds.length = ts.length ∧ vs.length = ts.length
  | [], vs, ds, ps, h => by
    obtain ⟨rfl, rfl, rfl⟩ := trodAll_nil h
    exact ⟨rfl, rfl⟩
  | t :: ts, vs, ds, ps, h => by
    obtain ⟨v, vs', d, ds', p, q, rfl, rfl, rfl, h0, hr⟩ := trodAll_cons h
    have := trodAll_len hr
    exact ⟨by simp [this.1], by simp [this.2]⟩
theorem shut {f : Func} {s : ChangeSpec} {apart fresh handsOn : Bool} {args : Array Value} {ds gs : List (DataW R)} {before : List MemPlace} {b : TypeId} (hl : laidOutB P = true) (hpar : ∀ t ∈ f.params.toList, P.readableRec t = true ∧ t < P.types.size) (hres : f.resultTypes = #[b]) (hb : P.underlying b = some .bool)
    (hvars : s.vars = []) (hs : ds.length = f.params.size → s.fn R (ds ++ []) = { results := [.lit (.bool true)], args := ds }) (hW : DataW.Whole en P f.params.toList s.vars apart W args.toList ds gs before) (hbel : Below W.heap.size W W') :
    s.post en P f apart fresh handsOn false W args (.bool true) W' := by
  have hlt : ∀ p ∈ before, p.block < W.heap.size := fun p hp => hW.lt p hp
  have hW0 := hW
  obtain ⟨p, q, hA, hV, rfl, _, _⟩ := hW
  have hV0 := hV
  rw [hvars] at hV
  obtain ⟨rfl, rfl⟩ := trodVars_none hV
  have hlen : ds.length = f.params.size := by rw [(trodAll_len hA).1, Array.length_toList]
  have e := hs hlen
  refine ⟨ds, [], p ++ [], [], p, [], hW0, ?_, ?_, ?_, World.keptBut_mono (fun x hx => ⟨hx, ?_⟩) (hbel.frame (· ∈ p ++ [])), fun h => by cases h⟩
  · rw [e, hres]
    exact trodAll_cons_mk (shut_bool hb true) trodAll_mk0
  · rw [e]
    exact trodAll_stays hl hpar hA (fun x hx => hbel.same (hlt x (List.mem_append_left _ hx))) (fun x hx => by simpa using hlt x (List.mem_append_left _ hx))
  · rw [e, hvars]; rfl
  · exact .inr (.inl (by simpa using hx))
theorem arg_int {t : TypeId} {base b0 : Nat} {sp' : Nat → Bool} {held : Bool} {r : Reach} {v : Value} {d : DataW R} {p : List MemPlace} (ht : P.underlying t = some (.int .i64)) (hv : Value.okWide P W r b0 t v) (h : DataW.Trod en P W base sp' held t v d p) : ∃ n, v = intV n ∧ I64 n := by
  obtain ⟨n, rfl⟩ := okWide_int ht hv
  obtain ⟨fuel, hf⟩ := h
  obtain ⟨m, e, g⟩ := dec_int ht hf
  have e' : [Value.int .i64 n] = [intV m] := e
  injection e' with e1
  injection e1 with _ e2
  subst e2
  exact ⟨n, rfl, g⟩
end
end Go.Proofs.YthabgdbhgcgemaaGreatDoor
namespace Go.Proofs.YthabgdbhgcgemaaGreatDoor
set_option linter.unusedVariables false
set_option linter.unusedSimpArgs false
open Go Go.RowKit Go.ChangeShapes Go.WideShapes
open Enc (enc)
section
variable {R : Type} {en : TypeId × Value → R} {P : Program} {W : World}
theorem arg_intK {k : IntKind} {t : TypeId} {base b0 : Nat} {sp' : Nat → Bool} {held : Bool} {r : Reach} {v : Value} {d : DataW R} {p : List MemPlace} (ht : P.underlying t = some (.int k)) (hv : Value.okWide P W r b0 t v) (h : DataW.Trod en P W base sp' held t v d p) : ∃ n, v = .int k n ∧ (Lit.int k n).wf = true := by
  obtain ⟨n, rfl⟩ := okWide_int ht hv
  obtain ⟨fuel, hf⟩ := h
  obtain ⟨m, e, _, g⟩ := DataW.trod_int ht hf
  have e' : [Value.int k n] = [Value.int k m] := e
  injection e' with e1
  injection e1 with _ e2
  subst e2
  exact ⟨n, rfl, g⟩
theorem arg_u8 {t : TypeId} {base b0 : Nat} {sp' : Nat → Bool} {held : Bool} {r : Reach} {v : Value} {d : DataW R} {p : List MemPlace} (ht : P.underlying t = some (.int .u8)) (hv : Value.okWide P W r b0 t v) (h : DataW.Trod en P W base sp' held t v d p) : ∃ n, v = .int .u8 n ∧ (0 ≤ n ∧ n ≤ 255) := by
  obtain ⟨n, rfl, hw⟩ := arg_intK ht hv h
  refine ⟨n, rfl, ?_⟩
  simp only [Lit.wf, Bool.and_eq_true, decide_eq_true_eq] at hw
  exact hw
end
end Go.Proofs.YthabgdbhgcgemaaGreatDoor
