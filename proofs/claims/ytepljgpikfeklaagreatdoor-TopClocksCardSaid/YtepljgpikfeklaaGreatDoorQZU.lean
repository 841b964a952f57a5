import Derived.Test.YtepljgpikfeklaaGreatDoorQZA
import Derived.Test.YtepljgpikfeklaaGreatDoorQNA
import Derived.Test.YtepljgpikfeklaaGreatDoorQEngR
import Derived.Test.YtepljgpikfeklaaGreatDoorQEngC
import Derived.Test.YtepljgpikfeklaaGreatDoorQWA
import Derived.Test.YtepljgpikfeklaaGreatDoorQTMap
import Derived.Lib.AppendZeros
import Derived.DefersIn
import Derived.Recover
namespace Go.Proofs.YtepljgpikfeklaaGreatDoor
set_option linter.unusedVariables false
set_option linter.unusedSimpArgs false
open Go Go.RowKit
open Enc (enc)
set_option maxRecDepth 20000
section
variable {P : Program} {n : FK} {w0 w : World} {H0 H : Hp} {Q : Exit → Act → World → Prop} {env : List (Nat × Value)} {L : List Loc} {ops rest : List Oper}
theorem St.frzZ {b : Nat} {e : TypeId} {cs : List Value} (hs : St w0 H0 H (.blk b e cs :: L) w) : ∃ H' : Hp, H'.cells b 0 cs ∧ H.le H' ∧ St w0 H0 H' L w :=
  ⟨_, Hp.put_cells, hs.putLe (List.Mem.head _) _, hs.freeze rfl ((hs.ok _ (List.Mem.head _)).2)⟩
theorem TL.frzZ (i : Nat) {b : Nat} {e : TypeId} {cs : List Value} (hi : L[i]? = some (.blk b e cs)) (h : ∀ (H' : Hp), H'.cells b 0 cs → H.le H' → TL P n w0 H0 ops Q rest env H' (L.eraseIdx i)) : TL P n w0 H0 ops Q rest env H L := by
  refine TL.perm _ (perm_of hi) ⟨fun a w hf hs => ?_⟩
  obtain ⟨H', e3, e4, e5⟩ := hs.frzZ
  exact (h H' e3 e4).out a w hf e5
end
section
variable {P : Program} {n : FK} {S : World → Prop} {env : List (Nat × Value)}
theorem V.quoZ {q : IntKind} {t u : TypeId} {x y : Operand} {i j m : Int} (hx : ev env x = some (.int q i)) (hy : ev env y = some (.int q j)) (hm : i.tdiv j = m) (hw : q.wrap m = m) (hj : j ≠ 0) : V P n S env (.binOp .quo t x y u) (.int q m) :=
  ⟨fun o a w ho hf _ => by
    unfold execOp; rw [ho]
    simp only [hf.ev hx, hf.ev hy, binOp, eqGuard, Op.intDiv]
    simp [hj, hm, hw]⟩
end
structure ClockV where
  off : Int
  every : Int
instance : Enc ClockV where
  size := 2
  enc c := [intV c.off, intV c.every]
  good _ c := I64 c.off ∧ I64 c.every
  len _ := rfl
  mono _ h := h
  one _ := rfl
  pos := by decide
def clockOK (c : ClockV) : Bool := decide (-1000 ≤ c.off ∧ c.off ≤ 1000) && decide (c.every = 0 ∨ (2 ≤ c.every ∧ c.every ≤ 10000000) ∨ (-10000000 ≤ c.every ∧ c.every ≤ -2))
theorem clock_iff {c : ClockV} : clockOK c = true ↔ (-1000 ≤ c.off ∧ c.off ≤ 1000) ∧ (c.every = 0 ∨ (2 ≤ c.every ∧ c.every ≤ 10000000) ∨ (-10000000 ≤ c.every ∧ c.every ≤ -2)) := by
  unfold clockOK
  rw [Bool.and_eq_true, decide_eq_true_iff, decide_eq_true_iff]
theorem clock_no {c : ClockV} (h : ¬ ((-1000 ≤ c.off ∧ c.off ≤ 1000) ∧ (c.every = 0 ∨ (2 ≤ c.every ∧ c.every ≤ 10000000) ∨ (-10000000 ≤ c.every ∧ c.every ≤ -2)))) : clockOK c = false := by
  rw [← clock_iff] at h; simpa using h
def shows (c : ClockV) (t : Int) : Int := if c.every = 0 then t + c.off else t + c.off + t.tdiv c.every
set_option maxHeartbeats 1000000 in
theorem c_clockValid (c : ClockV) {H : Hp} {w : World} (hs : Sat H w) : Calls Tryz.prog 21 #[.agg (enc c).toArray] w (Ret w (.bool (clockOK c))) := by
  refine T.enter (vs := [.agg (enc c).toArray]) (H := H) Tryz.func21 rfl rfl rfl hs ?_
  repeat (any_goals (first | refine T.seq ?_ | refine T.region ?_ | refine TL.nil ?_ | refine N.next ?_ | refine N.ret_then ?_ | refine T.ret ?_ | refine T.skip ?_ | (apply T.cond_true; rfl) | (apply T.test; rfl; (exact isx); intro _; rotate_left; intro _; rotate_right) | (apply TL.skip; rfl; rfl; rfl) | (apply TL.val; rfl; rfl; (first | exact vpure | exact vread)) | (apply TL.x; rfl; rfl; (first | exact xgrow | exact xput); intro _ _) | (apply TL.guard; rfl; rfl; rfl; (exact isx); intro _; rotate_left; intro _; rotate_right)))
  all_goals (try (first | (apply N.ret_bool; rfl; (exact rvx)) | (apply N.ret_int; rfl; (exact rvx)) | (apply N.ret_val; rfl; (exact rvx))))
  all_goals first
    | (refine (clock_no ?_).symm; omega)
    | (refine (clock_iff.2 ?_).symm; omega)
    | (rw [Bool.eq_iff_iff, clock_iff]; simp only [decide_eq_true_eq, Bool.not_eq_true', decide_eq_false_iff_not]; omega)
    | trace_state
theorem tdiv_bound {t e : Int} (h0 : 0 ≤ t) (h1 : t ≤ 20000000) (he : 2 ≤ e ∨ e ≤ -2) : -10000000 ≤ t.tdiv e ∧ t.tdiv e ≤ 10000000 := by
  rcases he with he | he
  · rw [Int.tdiv_eq_ediv_of_nonneg h0]
    have a := Int.ediv_mul_le t (show e ≠ 0 by omega)
    have b := Int.ediv_nonneg h0 (show 0 ≤ e by omega)
    refine ⟨by omega, ?_⟩
    have : t / e * 2 ≤ t / e * e := Int.mul_le_mul_of_nonneg_left he b
    omega
  · obtain ⟨d, rfl⟩ : ∃ d : Int, e = -d := ⟨-e, by omega⟩
    rw [Int.tdiv_neg, Int.tdiv_eq_ediv_of_nonneg h0]
    have a := Int.ediv_mul_le t (show d ≠ 0 by omega)
    have b := Int.ediv_nonneg h0 (show 0 ≤ d by omega)
    have : t / d * 2 ≤ t / d * d := Int.mul_le_mul_of_nonneg_left (by omega) b
    omega
theorem shows_bound {c : ClockV} (hc : clockOK c = true) {t : Int} (h0 : 0 ≤ t) (h1 : t ≤ 20000000) : -10001000 ≤ shows c t ∧ shows c t ≤ 30001000 := by
  obtain ⟨h2, h3⟩ := clock_iff.1 hc
  unfold shows
  split
  · omega
  · have := tdiv_bound h0 h1 (e := c.every) (by omega)
    omega
set_option maxHeartbeats 1000000 in
theorem c_faceAt (c : ClockV) (t : Int) (hc : clockOK c = true) (h0 : 0 ≤ t) (h1 : t ≤ 20000000) {H : Hp} {w : World} (hs : Sat H w) : Calls Tryz.prog 24 #[.agg (enc c).toArray, intV t] w (Ret w (intV (shows c t))) := by
  obtain ⟨h2, h3⟩ := clock_iff.1 hc
  refine T.enter (vs := [.agg (enc c).toArray, intV t]) (H := H) Tryz.func24 rfl rfl rfl hs ?_
  by_cases he : c.every = 0
  · rw [show shows c t = t + c.off by unfold shows; rw [if_pos he]]
    repeat (any_goals (first | refine T.seq ?_ | refine T.region ?_ | (apply T.regionD wide; rfl) | refine TL.nil ?_ | refine N.next ?_ | refine N.ret_then ?_ | refine T.ret ?_ | refine T.skip ?_ | (apply T.test; rfl; (exact isx); intro _; rotate_left; intro _; rotate_right) | (apply TL.val; rfl; rfl; (first | exact vpure | exact vread)) | (apply GT.pure; (iterate 4 rfl); (first | exact vpure); decide +kernel) | (apply GT.read; (iterate 4 rfl); (first | exact vpure | exact vread); decide +kernel) | (apply TL.x; rfl; rfl; (first | exact xgrow | exact xput); intro _ _) | (apply GT.fork1; decide +kernel)))
    all_goals (try contradiction)
    all_goals exact N.ret_int rfl (by (exact rvx)) rfl
  · have hd := tdiv_bound h0 h1 (e := c.every) (by omega)
    rw [show shows c t = t + c.off + t.tdiv c.every by unfold shows; rw [if_neg he]]
    repeat (any_goals (first | refine T.seq ?_ | refine T.region ?_ | (apply T.regionD wide; rfl) | refine TL.nil ?_ | refine N.next ?_ | refine N.ret_then ?_ | refine T.ret ?_ | refine T.skip ?_ | (apply T.test; rfl; (exact isx); intro _; rotate_left; intro _; rotate_right) | (apply GT.pure; (iterate 4 rfl); (apply V.quoZ; rfl; rfl; rfl; exact wrap_i64 (by constructor <;> omega); exact he); decide +kernel) | (apply TL.val; rfl; rfl; (first | exact vpure | exact vread)) | (apply GT.pure; (iterate 4 rfl); (first | exact vpure); decide +kernel) | (apply GT.read; (iterate 4 rfl); (first | exact vpure | exact vread); decide +kernel) | (apply GT.done; decide +kernel; apply N.ofQ) | (apply TL.x; rfl; rfl; (first | exact xgrow | exact xput); intro _ _)))
    all_goals (try contradiction)
    all_goals exact N.ret_int rfl (by (exact rvx)) rfl
set_option maxHeartbeats 1000000 in
theorem c_Show (c : ClockV) (t : Int) (hc : clockOK c = true) (h0 : 0 ≤ t) (h1 : t ≤ 20000000) {H : Hp} {w : World} (hs : Sat H w) : Calls Tryz.prog 8 #[.agg (enc c).toArray, intV t] w (Ret w (.tuple #[intV (shows c t), intV 0])) := by
  refine T.enter (vs := [.agg (enc c).toArray, intV t]) (H := H) Tryz.func8 rfl rfl rfl hs ?_
  repeat (any_goals (first | refine T.seq ?_ | refine T.region ?_ | refine TL.nil ?_ | refine N.next ?_ | refine N.ret_then ?_ | refine T.ret ?_ | refine T.skip ?_ | (apply T.cond_true; rfl) | (apply T.test; rfl; (exact isx); intro _; rotate_left; intro _; rotate_right) | (apply TL.skip; rfl; rfl; rfl) | (apply TL.callE (f := 21) [.agg (enc c).toArray] Tryz.call21; (iterate 4 rfl); (exact fun _ hs => hc ▸ c_clockValid c hs.sat)) | (apply TL.callE (f := 24) [.agg (enc c).toArray, intV t] Tryz.call24; (iterate 4 rfl); (exact fun _ hs => c_faceAt c t hc h0 h1 hs.sat)) | (apply TL.val; rfl; rfl; (first | exact vpure | exact vread)) | (apply TL.x; rfl; rfl; (first | exact xgrow | exact xput); intro _ _) | (apply TL.guard; rfl; rfl; rfl; (exact isx); intro _; rotate_left; intro _; rotate_right)))
  all_goals (try contradiction)
  all_goals (try (exfalso; omega))
  exact N.ret_two rfl (by (exact rvx)) (by (exact rvx)) rfl
def wrongAt (c : ClockV) (d t : Int) : Bool := decide (d < shows c t - t) || decide (shows c t - t < -d)
def withinC (c : ClockV) (d e : Int) : Bool := !wrongAt c d 0 && !wrongAt c d (e - 1)
theorem c_within1 (c : ClockV) (d t : Int) (b3 b4 : Nat) (hc : clockOK c = true) (hd : 0 ≤ d ∧ d ≤ 1000) (h0 : 0 ≤ t) (h1 : t ≤ 20000000) {H : Hp} {w : World} (hs : Sat H w) (hb3 : H.cells b3 0 (enc c)) (hb4 : H.cells b4 0 [intV d]) : Calls Tryz.prog 23 #[intV t, .pointer (some ⟨b3, 0, none⟩), .pointer (some ⟨b4, 0, none⟩)] w (Ret w (.bool (wrongAt c d t))) := by
  have hb := shows_bound hc h0 h1
  refine T.enter (vs := [intV t, .pointer (some ⟨b3, 0, none⟩), .pointer (some ⟨b4, 0, none⟩)]) (H := H) Tryz.func23 rfl rfl rfl hs ?_
  repeat (any_goals (first | refine T.seq ?_ | refine T.region ?_ | refine TL.nil ?_ | refine N.next ?_ | refine T.ret ?_ | (apply TL.skip; rfl; rfl; rfl) | (apply TL.val; rfl; rfl; (apply V.load_H_row; rfl; rfl; rfl; exact hb3; rfl)) | (apply TL.val; rfl; rfl; (apply V.load_H; rfl; rfl; rfl; exact hb4 0 _ rfl)) | (apply TL.val; rfl; rfl; (apply V.negE (i := d) (M := -d); exact wrap_i64 (by constructor <;> omega); rfl)) | (apply TL.callE (f := 24) [.agg (enc c).toArray, intV t] Tryz.call24; (iterate 4 rfl); (exact fun _ hs => c_faceAt c t hc h0 h1 hs.sat)) | (apply TL.val; rfl; rfl; (first | exact vpure | exact vread)) | (apply TL.guard; rfl; rfl; rfl; (exact isx); intro _; rotate_left; intro _; rotate_right)))
  all_goals (try (first | (apply N.ret_bool; rfl; (exact rvx)) | (apply N.ret_int; rfl; (exact rvx)) | (apply N.ret_val; rfl; (exact rvx))))
  all_goals (unfold wrongAt; grind)
set_option maxHeartbeats 1000000 in
theorem c_Within (c : ClockV) (d e : Int) (hc : clockOK c = true) (hd : 0 ≤ d ∧ d ≤ 1000) (h0 : 1 ≤ e) (h1 : e ≤ 20000000) {H : Hp} {w : World} (hs : Sat H w) : Calls Tryz.prog 7 #[.agg (enc c).toArray, intV d, intV e] w (Ret w (.tuple #[.bool (withinC c d e), intV 0])) := by
  have hE : ∀ {w : World}, Sat H w → ∀ {H' : Hp} {w : World}, Sat H' w → Calls Tryz.prog 22 #[intV e] w (Ret w (.bool true)) := fun {w} _ {H' w'} hs => by
    refine T.enter (vs := [intV e]) (H := H') Tryz.func22 rfl rfl rfl hs ?_
    repeat (any_goals (first | refine T.seq ?_ | refine T.region ?_ | refine TL.nil ?_ | refine N.next ?_ | refine T.ret ?_ | (apply TL.skip; rfl; rfl; rfl) | (apply TL.val; rfl; rfl; (first | exact vpure | exact vread)) | (apply TL.guard; rfl; rfl; rfl; (exact isx); intro _; rotate_left; intro _; rotate_right)))
    all_goals (try (exfalso; omega))
    exact N.ret_bool rfl (by (exact rvx)) (decide_eq_true h1)
  have hE := fun {H' : Hp} {w' : World} (h : Sat H' w') => hE hs h
  refine T.enter (vs := [.agg (enc c).toArray, intV d, intV e]) (H := H) Tryz.func7 rfl rfl rfl hs ?_
  repeat (any_goals (first | refine T.seq ?_ | refine T.region ?_ | refine TL.nil ?_ | refine N.next ?_ | refine N.ret_then ?_ | refine T.ret ?_ | refine T.skip ?_ | (apply T.cond_true; rfl) | (apply T.cond_false; rfl) | (apply TL.skip; rfl; rfl; rfl) | (apply TL.x; rfl; rfl; (apply X.box (d := 3); rfl; rfl; rfl); intro b3 _; apply TL.frzZ 0; rfl; intro H1 z3 hle1) | (apply TL.x; rfl; rfl; (apply X.box (d := 4); rfl; rfl; rfl); intro b4 _; apply TL.frzZ 0; rfl; intro H2 z4 hle2; have z3 := Hp.cells_le hle2 z3) | (apply TL.val; rfl; rfl; (apply V.load_H_row; rfl; rfl; rfl; exact z3; rfl)) | (apply TL.val; rfl; rfl; (apply V.load_H; rfl; rfl; rfl; exact z4 0 _ rfl)) | (apply TL.callE (f := 21) [.agg (enc c).toArray] Tryz.call21; (iterate 4 rfl); (exact fun _ hs => hc ▸ c_clockValid c hs.sat)) | (apply TL.callE (f := 22) [intV e] Tryz.call22; (iterate 4 rfl); (exact fun _ hs => hE hs.sat)) | (apply TL.val; rfl; rfl; ((apply V.makeFunc (vs := []) (us := [.pointer (some ⟨b3, 0, none⟩), .pointer (some ⟨b4, 0, none⟩)]) <;> rfl))) | (apply TL.call; (iterate 4 rfl); exact Tryz.call23; exact fun _ hs => c_within1 c d _ b3 b4 hc hd (by omega) (by omega) hs.sat z3 z4) | (apply TL.val; rfl; rfl; (first | exact vpure | exact vread)) | (apply TL.guard; rfl; rfl; rfl; (exact isx); intro _; rotate_left; intro _; rotate_right)))
  all_goals (try contradiction)
  all_goals (try (exfalso; omega))
  all_goals first
    | exact N.ret_two rfl (by (exact rvx)) (by (exact rvx)) (by unfold withinC; grind)
    | trace_state
end Go.Proofs.YtepljgpikfeklaaGreatDoor
namespace Go.Proofs.YtepljgpikfeklaaGreatDoor
set_option linter.unusedVariables false
set_option linter.unusedSimpArgs false
open Go Go.RowKit
open Enc (enc)
set_option maxRecDepth 20000
structure SpanV where
  frm : Int
  til : Int
deriving DecidableEq
instance : Enc SpanV where
  size := 2
  enc s := [intV s.frm, intV s.til]
  good _ s := I64 s.frm ∧ I64 s.til
  len _ := rfl
  mono _ h := h
  one _ := rfl
  pos := by decide
def hasSpan (t : Int) (s : SpanV) : Bool := decide (s.frm ≤ t) && decide (t < s.til)
def hasAny (l : List SpanV) (t : Int) : Bool := l.any (hasSpan t)
theorem c_has1 (s : SpanV) (t : Int) (b : Nat) {H : Hp} {w : World} (hs : Sat H w) (hb : H.cells b 0 [intV t]) : Calls Tryz.prog 134 #[.agg (enc s).toArray, .pointer (some ⟨b, 0, none⟩)] w (Ret w (.bool (hasSpan t s))) := by
  refine T.enter (vs := [.agg (enc s).toArray, .pointer (some ⟨b, 0, none⟩)]) (H := H) Tryz.func134 rfl rfl rfl hs ?_
  repeat (any_goals (first | refine T.seq ?_ | refine T.region ?_ | refine TL.nil ?_ | refine N.next ?_ | refine T.ret ?_ | (apply TL.skip; rfl; rfl; rfl) | (apply TL.val; rfl; rfl; (apply V.load_H; rfl; rfl; rfl; exact hb 0 _ rfl)) | (apply TL.val; rfl; rfl; (first | exact vpure | exact vread)) | (apply TL.x; rfl; rfl; (first | exact xgrow | exact xput); intro _ _) | (apply TL.guard; rfl; rfl; rfl; (exact isx); intro _; rotate_left; intro _; rotate_right)))
  all_goals (try (first | (apply N.ret_bool; rfl; (exact rvx)) | (apply N.ret_int; rfl; (exact rvx)) | (apply N.ret_val; rfl; (exact rvx))))
  all_goals (unfold hasSpan; grind)
theorem c_indexS (s : Slc SpanV) (t : Int) (b : Nat) {H : Hp} {w : World} (hs : Sat H w) (hg : s.Good H) (hb : H.cells b 0 [intV t]) : Calls Tryz.prog 174 #[s.v, .func (.func 134) #[] #[.pointer (some ⟨b, 0, none⟩)]] w (Ret w (intV (idxI (hasSpan t) s.els))) := by
  have hlen := hg.len
  have hlim := hg.lim
  refine T.enter (vs := [s.v, .func (.func 134) #[] #[.pointer (some ⟨b, 0, none⟩)]]) (H := H) Tryz.func174 rfl rfl rfl hs ?_
  repeat (any_goals (first | refine T.seq ?_ | refine T.region ?_ | refine TL.nil ?_ | refine N.next ?_ | refine T.block ?_ | (apply TL.val; rfl; rfl; (first | exact vpure | exact vread))))
  refine T.loop (G := Nat) (fun k => [(0, s.v), (1, .func (.func 134) #[] #[.pointer (some ⟨b, 0, none⟩)]), (7, intV s.len), (8, intV k)]) (fun _ => H) (fun _ => []) (fun k => k ≤ s.len ∧ ∀ j (hj : j < s.els.length), j < k → hasSpan t s.els[j] = false) (fun k => s.len - k) 0 ⟨Nat.zero_le _, fun j _ h => by omega⟩ (by (repeat (first | exact True.intro | refine ⟨rfl, ?_⟩ | refine Sub.int rfl (by omega) ?_))) rfl (by (first | exact List.Sublist.refl _ | exact List.nil_sublist _ | exact List.Sublist.cons _ (List.Sublist.refl _) | exact List.Sublist.cons _ (List.Sublist.cons _ (List.Sublist.refl _)))) ?_
  rintro k ⟨hk, hrel⟩
  by_cases hlt : k < s.len
  · have hkl : k < s.els.length := by omega
    repeat (any_goals (first | refine T.seq ?_ | refine T.region ?_ | refine TL.nil ?_ | refine N.next ?_ | refine N.inBlock ?_ | refine N.exit_same ?_ | refine N.exit_then ?_ | refine N.ret_then ?_ | refine N.ret_block ?_ | refine T.ret ?_ | refine T.skip ?_ | refine T.exit ?_ | refine T.block ?_ | (apply T.test; rfl; (exact isx); intro _; rotate_left; intro _; rotate_right) | (apply TL.call; (iterate 4 rfl); exact Tryz.call134; exact fun _ hs => c_has1 _ t b hs.sat hb) | (apply TL.val; rfl; rfl; (first | exact vpure | exact vread))))
    all_goals (try (exfalso; omega))
    · refine N.ret_int rfl (by (exact rvx)) ?_
      exact (idxI_at hkl (by assumption) (fun j hj => hrel j (by omega) hj)).symm
    · (refine N.round (k + 1) ?_ ?_ ?_ ?_ ?_; rotate_left 2; (repeat (first | exact True.intro | refine ⟨rfl, ?_⟩ | refine Sub.int rfl (by omega) ?_)); rfl; (first | exact List.Sublist.refl _ | exact List.nil_sublist _ | exact List.Sublist.cons _ (List.Sublist.refl _) | exact List.Sublist.cons _ (List.Sublist.cons _ (List.Sublist.refl _))))
      · refine ⟨by omega, fun j hj hjk => ?_⟩
        by_cases e : j = k
        · subst e; assumption
        · exact hrel j hj (by omega)
      · omega
  · repeat (any_goals (first | refine T.seq ?_ | refine T.region ?_ | refine TL.nil ?_ | refine N.next ?_ | refine N.exit_same ?_ | refine N.exit_then ?_ | refine T.ret ?_ | refine T.skip ?_ | refine T.exit ?_ | refine T.block ?_ | (apply T.test; rfl; (exact isx); intro _; rotate_left; intro _; rotate_right) | (apply TL.val; rfl; rfl; (first | exact vpure | exact vread))))
    all_goals (try (exfalso; omega))
    refine N.ret_int rfl (by (exact rvx)) ?_
    exact (idxI_none fun j hj => hrel j hj (by omega)).symm
theorem c_spanHas (s : Slc SpanV) (t : Int) {H : Hp} {w : World} (hs : Sat H w) (hg : s.Good H) : Calls Tryz.prog 75 #[s.v, intV t] w (Ret w (.bool (hasAny s.els t))) := by
  have hC : ∀ (b : Nat) {H : Hp} {w : World}, Sat H w → s.Good H → H.cells b 0 [intV t] → Calls Tryz.prog 133 #[s.v, .func (.func 134) #[] #[.pointer (some ⟨b, 0, none⟩)]] w (Ret w (.bool (hasAny s.els t))) := fun b {H w} hs hg hb => by
    refine T.enter (vs := [s.v, .func (.func 134) #[] #[.pointer (some ⟨b, 0, none⟩)]]) (H := H) Tryz.func133 rfl rfl rfl hs ?_
    repeat (any_goals (first | refine T.seq ?_ | refine T.region ?_ | refine TL.nil ?_ | refine N.next ?_ | refine T.ret ?_ | (apply TL.callE (f := 174) [s.v, .func (.func 134) #[] #[.pointer (some ⟨b, 0, none⟩)]] Tryz.call174; (iterate 4 rfl); (exact fun _ hs => c_indexS s t b hs.sat hg hb)) | (apply TL.val; rfl; rfl; (first | exact vpure | exact vread))))
    all_goals (try (first | (apply N.ret_bool; rfl; (exact rvx)) | (apply N.ret_int; rfl; (exact rvx)) | (apply N.ret_val; rfl; (exact rvx))))
    exact idxI_ge _ _
  refine T.enter (vs := [s.v, intV t]) (H := H) Tryz.func75 rfl rfl rfl hs ?_
  repeat (any_goals (first | refine T.seq ?_ | refine T.region ?_ | refine TL.nil ?_ | refine N.next ?_ | refine T.ret ?_ | (apply TL.x; rfl; rfl; (apply X.box (d := 3); rfl; rfl; rfl); intro b3 _; apply TL.frzZ 0; rfl; intro H1 z3 hle1) | (apply TL.val; rfl; rfl; ((apply V.makeFunc (vs := []) (us := [.pointer (some ⟨b3, 0, none⟩)]) <;> rfl))) | (apply TL.callE (f := 133) [s.v, .func (.func 134) #[] #[.pointer (some ⟨b3, 0, none⟩)]] Tryz.call133; (iterate 4 rfl); (exact fun _ hs => hC b3 hs.sat (hg.mono hle1) z3)) | (apply TL.val; rfl; rfl; (first | exact vpure | exact vread))))
  all_goals (try (first | (apply N.ret_bool; rfl; (exact rvx)) | (apply N.ret_int; rfl; (exact rvx)) | (apply N.ret_val; rfl; (exact rvx))))
  rfl
end Go.Proofs.YtepljgpikfeklaaGreatDoor
namespace Go.Proofs.YtepljgpikfeklaaGreatDoor
set_option linter.unusedVariables false
set_option linter.unusedSimpArgs false
open Go Go.RowKit
open Enc (enc)
set_option maxRecDepth 20000
def fullS (s : SpanV) : Bool := decide (s.frm < s.til)
theorem c_full1 (s : SpanV) {H : Hp} {w : World} (hs : Sat H w) : Calls Tryz.prog 171 #[.agg (enc s).toArray] w (Ret w (.bool (fullS s))) := by
  refine T.enter (vs := [.agg (enc s).toArray]) (H := H) Tryz.func171 rfl rfl rfl hs ?_
  repeat (any_goals (first | refine T.seq ?_ | refine T.region ?_ | refine TL.nil ?_ | refine N.next ?_ | refine T.ret ?_ | (apply TL.val; rfl; rfl; (first | exact vpure | exact vread)) | (apply TL.x; rfl; rfl; (first | exact xgrow | exact xput); intro _ _)))
  all_goals (try (first | (apply N.ret_bool; rfl; (exact rvx)) | (apply N.ret_int; rfl; (exact rvx)) | (apply N.ret_val; rfl; (exact rvx))))
  rfl
def fullUp (l : List SpanV) (k : Nat) : List SpanV := (l.take k).filter fullS
theorem fullUp_next {l : List SpanV} {k : Nat} (hk : k < l.length) : fullUp l (k + 1) = fullUp l k ++ if fullS l[k] then [l[k]] else [] := by
  unfold fullUp
  rw [List.take_succ_eq_append_getElem hk, List.filter_append, List.filter_cons]
  split <;> rfl
theorem fullUp_len (l : List SpanV) (k : Nat) : (fullUp l k).length ≤ k := by
  unfold fullUp
  refine Nat.le_trans (List.length_filter_le _ _) ?_
  rw [List.length_take]; omega
set_option maxHeartbeats 2000000 in
theorem c_sift (s : Slc SpanV) (hf : s.len ≤ 20000) {H : Hp} {w : World} (hs : Sat H w) (hg : s.Good H) : Calls Tryz.prog 170 #[s.v, .func (.func 171) #[] #[]] w (RetO w H (fun _ : Value => True) (fun v => v) (fun _ => H) (fun v => [.row v 134 2 (s.els.filter fullS).length (encs (s.els.filter fullS))])) := by
  have hlen := hg.len
  have hlim := hg.lim
  refine T.enter (vs := [s.v, .func (.func 171) #[] #[]]) (H := H) Tryz.func170 rfl rfl rfl hs ?_
  repeat (any_goals (first | refine T.seq ?_ | refine T.region ?_ | refine TL.nil ?_ | refine N.next ?_ | refine T.block ?_ | (apply TL.val; rfl; rfl; (first | exact vpure | exact vread))))
  refine T.nilRow 134 2 ?_
  refine T.loop (G := Value × Nat) (fun g => [(1, .func (.func 171) #[] #[]), (5, g.1), (8, s.v), (9, intV s.len), (10, intV g.2)]) (fun _ => H) (fun g => [.row g.1 134 2 (fullUp s.els g.2).length (encs (fullUp s.els g.2))]) (fun g => g.2 ≤ s.len) (fun g => s.len - g.2) (.slice none 0 0, 0) (Nat.zero_le _) (by (repeat (first | exact True.intro | refine ⟨rfl, ?_⟩ | refine Sub.int rfl (by omega) ?_))) rfl (by (repeat (first | exact List.Sublist.refl _ | exact List.nil_sublist _ | apply List.Sublist.cons_cons | apply List.Sublist.cons))) ?_
  rintro ⟨v, k⟩ hk
  simp only at hk ⊢
  by_cases hlt : k < s.len
  · have hkl : k < s.els.length := by omega
    have hrow := hg.row (k := k) hlt
    have hup := fullUp_next hkl
    have hcl := fullUp_len s.els k
    obtain ⟨cs, hcs⟩ : ∃ cs, fullUp s.els k = cs := ⟨_, rfl⟩
    obtain ⟨x, hx⟩ : ∃ x, s.els[k]'hkl = x := ⟨_, rfl⟩
    rw [hcs, hx] at hup
    try rw [hx] at hrow
    rw [hcs] at hcl ⊢
    repeat (any_goals (first | refine T.seq ?_ | refine T.region ?_ | refine TL.nil ?_ | refine N.next ?_ | refine N.inBlock ?_ | refine N.exit_same ?_ | refine N.exit_then ?_ | refine T.ret ?_ | refine T.skip ?_ | refine T.exit ?_ | refine T.block ?_ | (apply T.test; rfl; (exact isx); intro _; rotate_left; intro _; rotate_right) | (apply TL.val; rfl; rfl; (apply V.elem (j := k); (iterate 6 rfl); omega; exact hg.at_ (by omega))) | (apply TL.val; rfl; rfl; (apply V.load_H_row; rfl; rfl; rfl; exact hrow; rfl)) | (apply TL.x; rfl; rfl; (apply X.alloc (d := 7); rfl; rfl; rfl); intro b7 _) | (apply TL.x; rfl; rfl; (apply X.storeTo 0 (enc x); (iterate 10 rfl)); intro _ _) | (apply TL.call; (iterate 4 rfl); exact Tryz.call171; exact fun _ hs => c_full1 x hs.sat) | (apply TL.x; rfl; rfl; (apply X.buildSlice1 (d := 19); (iterate 8 rfl)); intro b19 _) | (apply TL.x; rfl; rfl; (apply X.append1 2; (iterate 9 rfl); exact List.Mem.head _; rfl; rfl; rfl; (refine Nat.le_trans (Nat.mul_le_mul_right _ (show _ ≤ 20001 by omega)) ?_; decide); omega); intro pa _) | (apply TL.val; rfl; rfl; (first | exact vpure | exact vread))))
    all_goals (try (exfalso; omega))
    all_goals first
      | (have hc : fullS x = true := by assumption
         rw [if_pos hc] at hup
         refine N.round (.slice (some ⟨pa.1, 0, none⟩) (cs.length + 1) pa.2, k + 1) (by show k + 1 ≤ _; omega) (by show s.len - (k + 1) < s.len - k; omega) (by (repeat (first | exact True.intro | refine ⟨rfl, ?_⟩ | refine Sub.int rfl (by omega) ?_))) rfl ?_
         simp only [hup, List.length_append, List.length_cons, List.length_nil, Nat.zero_add, encs_snoc]
         exact List.Sublist.cons _ (List.Sublist.cons _ (List.Sublist.refl _)))
      | (have hc : fullS x = false := by assumption
         rw [hc, if_neg (by decide), List.append_nil] at hup
         refine N.round (v, k + 1) (by show k + 1 ≤ _; omega) (by show s.len - (k + 1) < s.len - k; omega) (by (repeat (first | exact True.intro | refine ⟨rfl, ?_⟩ | refine Sub.int rfl (by omega) ?_))) rfl ?_
         simp only [hup]
         exact List.Sublist.cons _ (List.Sublist.refl _))
      | trace_state
  · have hke : k = s.len := by omega
    subst hke
    have hal : fullUp s.els s.len = s.els.filter fullS := by unfold fullUp; rw [List.take_of_length_le (by omega)]
    rw [hal]
    repeat (any_goals (first | refine T.seq ?_ | refine T.region ?_ | refine TL.nil ?_ | refine N.next ?_ | refine N.exit_same ?_ | refine N.exit_then ?_ | refine T.ret ?_ | refine T.skip ?_ | refine T.exit ?_ | refine T.block ?_ | (apply T.test; rfl; (exact isx); intro _; rotate_left; intro _; rotate_right) | (apply TL.val; rfl; rfl; (first | exact vpure | exact vread)) | (apply TL.x; rfl; rfl; (first | exact xgrow | exact xput); intro _ _)))
    all_goals (try (exfalso; omega))
    exact N.ret1 rfl (by (exact rvx)) fun w hst => ⟨v, trivial, rfl, hst⟩
end Go.Proofs.YtepljgpikfeklaaGreatDoor
