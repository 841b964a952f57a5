import Derived.Test.YthabgdbhgcgemaaGreatDoorQBE
import Derived.Test.YthabgdbhgcgemaaGreatDoorQTMap
import Derived.Test.YthabgdbhgcgemaaGreatDoorQDataH
namespace Go.Proofs.YthabgdbhgcgemaaGreatDoor
set_option linter.unusedVariables false
set_option linter.unusedSimpArgs false
open Go Go.RowKit
open Enc (enc)
set_option maxRecDepth 20000
section
variable {P : Program} {n : FK} {w0 w w' : World} {H0 H H' : Hp} {Q : Exit → Act → World → Prop} {env : List (Nat × Value)} {L L' : List Loc} {ops rest : List Oper} {κ : Type} [DecidableEq κ]
omit [DecidableEq κ] in
theorem X.makeMapN [Tys P] {d : Nat} {t kt e ty : TypeId} {x : Operand} {i : Int} {q : IntKind} {k : TyK} {pos : String} {after : Array Edge} {g : Option (Nat × Bool)} (mk : κ → Value) (hn : Nat.blt d n.n = true) (hk : tyk P t = some k) (hd : k.desc = .map kt e) (hx : ev env x = some (.int q i)) :
    X P n w0 H0 env H L ⟨some d, .makeMap t (some x), ty, pos, after, g⟩ true (G := Nat) (fun _ => True) (fun b => (d, .map (some b)) :: env) (fun _ => H) (fun b => .any b (mObj mk []) :: L) :=
  ⟨fun a w hf hs K Q hK => by
    obtain ⟨dd, hd1, hd2⟩ := (tyk_ok hk).und
    rw [hd] at hd2
    simp only [TyD.fits] at hd2
    subst hd2
    unfold Oper.wp
    have : (execOp a.eval ⟨some d, .makeMap t (some x), ty, pos, after, g⟩).run P w = .ok (.value (.map (some w.heap.size))) (w.alloc (mObj mk [])) := by
      unfold execOp
      simp [hf.ev hx, Instr.makeMap, run_underlying hd1, asInt, newObj]
      rfl
    rw [this]
    exact hK _ _ _ trivial (fun _ => (Below.refl _ _).alloc (Nat.le_refl _) _) (hf.put hn _) (hs.alloc rfl ⟨hs.below.size, World.alloc_heap_new _ _⟩)⟩
end
def placeV (s : Signed) : Question := ⟨s.set.name, s.set.typ⟩
theorem placeV_c (s : Signed) : placeC s.c = placeV s := rfl
def sgV (s : Signed) : Value := .agg (enc s).toArray
def plEnts (l : List Signed) : List (Question × Value) := l.map fun s => (placeV s, sgV s)
theorem aPut_end {κ : Type} [DecidableEq κ] {a : κ} {v : Value} {l : List (κ × Value)} (h : ∀ p ∈ l, p.1 ≠ a) : aPut a v l = l ++ [(a, v)] := by
  unfold aPut
  rw [aFind_none.2 h]
theorem mput_toD {κ : Type} [DecidableEq κ] {L L' : List Loc} {i b : Nat} {mk : κ → Value} {a : κ} {v : Value} {l l' : List (κ × Value)} (h : aPut a v l = l') (hL : L.set i (.any b (mObj mk l')) = L') : L.set i (.any b (mObj mk (aPut a v l))) = L' := by rw [h]; exact hL
section
variable {H : Hp} {w : World}
theorem c_dplace (s : Signed) (hs : Sat H w) : Calls Tryz.prog 105 #[sgV s] w (Ret w (qV (placeV s))) := by
  refine T.enter (vs := [sgV s]) (H := H) Tryz.func105 rfl rfl rfl hs ?_
  repeat (any_goals (first | refine T.seq ?_ | refine T.region ?_ | refine TL.nil ?_ | refine N.next ?_ | refine T.ret ?_ | (apply TL.x; rfl; rfl; (apply X.box (d := 1) (cs := enc s); rfl; rfl; rfl); intro b1 _) | (apply TL.x; rfl; rfl; (apply X.alloc (d := 2); rfl; rfl; rfl); intro b2 _) | (apply TL.val; rfl; rfl; (apply V.build; (iterate 6 rfl))) | (apply TL.x; rfl; rfl; (apply X.storeTo 0 (enc (placeV s)); (iterate 10 rfl)); intro _ _) | (apply TL.val; rfl; rfl; (first | exact vpure | exact vread))))
  exact N.ret1 rfl (by (exact rvx)) fun w1 hst => ⟨rfl, hst.below⟩
theorem c_dcomparePlaces (p q : Question) (hp : nameOK p.name = true) (hq : nameOK q.name = true) {r : Int} (hr : cmpQQ p q = r) (hs : Sat H w) : Calls Tryz.prog 138 #[qV p, qV q] w (Ret w (intV r)) := by
  refine T.enter (vs := [qV p, qV q]) (H := H) Tryz.func138 rfl rfl rfl hs ?_
  by_cases e : p.name = q.name
  · have hr : cmpI p.typ q.typ = r := by rw [← hr]; unfold cmpQQ cmpN; rw [if_pos e]
    repeat (any_goals (first | refine T.seq ?_ | refine T.region ?_ | refine TL.nil ?_ | refine N.next ?_ | refine T.ret ?_ | refine T.skip ?_ | (apply T.test; rfl; (exact isx); intro _; rotate_left; intro _; rotate_right) | (apply TL.x; rfl; rfl; (apply X.box (d := 2) (cs := enc p); rfl; rfl; rfl); intro b2 _) | (apply TL.x; rfl; rfl; (apply X.box (d := 3) (cs := enc q); rfl; rfl; rfl); intro b3 _) | (apply TL.callE (f := 135) [intV p.typ, intV q.typ] Tryz.call135; (iterate 4 rfl); (exact fun _ hs => hr ▸ c_cmpI _ _ _ _ hs.sat)) | (apply TL.val; rfl; rfl; (first | exact vpure | exact vread))))
    all_goals (try contradiction)
    exact N.ret_int rfl (by (exact rvx)) rfl
  · have hr : ordN p.name q.name = r := by rw [← hr]; unfold cmpQQ cmpN; rw [if_neg e]
    repeat (any_goals (first | refine T.seq ?_ | refine T.region ?_ | refine TL.nil ?_ | refine N.next ?_ | refine N.ret_then ?_ | refine T.ret ?_ | refine T.skip ?_ | (apply T.test; rfl; (exact isx); intro _; rotate_left; intro _; rotate_right) | (apply TL.x; rfl; rfl; (apply X.box (d := 2) (cs := enc p); rfl; rfl; rfl); intro b2 _) | (apply TL.x; rfl; rfl; (apply X.box (d := 3) (cs := enc q); rfl; rfl; rfl); intro b3 _) | (apply TL.callE (f := 134) [strV p.name, strV q.name] Tryz.call134; (iterate 4 rfl); (exact fun _ hs => hr ▸ c_CompareN p.name q.name hp hq hs.sat)) | (apply TL.val; rfl; rfl; (first | exact vpure | exact vread))))
    all_goals (try contradiction)
    exact N.ret_int rfl (by (exact rvx)) rfl
theorem c_dclone (e : Signed) (hs : Sat H w) (hg : Enc.good H e) (h1 : e.set.data.len ≤ 1000) (h2 : e.sigs.len ≤ 1000) : Calls Tryz.prog 108 #[sgV e] w (RetF w H (fun p : Hp × Signed => p.2.c = e.c ∧ Enc.good p.1 p.2) (fun p => sgV p.2) (fun p => p.1)) := by
  refine T.enter (vs := [sgV e]) (H := H) Tryz.func108 rfl rfl rfl hs ?_
  repeat (any_goals (first | refine T.seq ?_ | refine T.region ?_ | refine TL.nil ?_ | refine N.next ?_ | refine T.ret ?_ | (apply TL.x; rfl; rfl; (apply X.box (d := 1) (cs := enc e); rfl; rfl; rfl); intro b1 _) | (apply TL.x; rfl; rfl; (apply X.callFE (f := 42) [e.set.data.v] Tryz.call42; rfl; rfl; rfl; exact (fun _ hs => c_CloneDatum e.set.data _ _ hs.sat hg.1.2.2.2 h1)); intro p1 hp1; have hg2 := Enc.mono hp1.2 hg) | (apply TL.x; rfl; rfl; (apply X.callFE (f := 43) [e.sigs.v] Tryz.call43; rfl; rfl; rfl; exact (fun _ hs => c_CloneSig e.sigs _ _ hs.sat hg2.2 h2)); intro p2 hp2) | (apply TL.x; rfl; rfl; (apply X.storeTo 1 (enc (⟨⟨e.set.name, e.set.typ, e.set.life, p1.2⟩, e.sigs⟩ : Signed)); (iterate 10 rfl)); intro _ _) | (apply TL.x; rfl; rfl; (apply X.storeTo 1 (enc (⟨⟨e.set.name, e.set.typ, e.set.life, p1.2⟩, p2.2⟩ : Signed)); (iterate 10 rfl)); intro _ _) | (apply TL.x; rfl; rfl; (apply X.storeTo 0 (enc (⟨⟨e.set.name, e.set.typ, e.set.life, p1.2⟩, p2.2⟩ : Signed)); (iterate 10 rfl)); intro _ _) | (apply TL.val; rfl; rfl; (first | exact vpure | exact vread)) | (apply TL.x; rfl; rfl; (first | exact xgrow | exact xput); intro _ _)))
  apply N.ret1; rfl; (exact rvx)
  intro w1 hst
  obtain ⟨⟨a1, a2⟩, a3⟩ := hp1
  obtain ⟨⟨b1, b2⟩, b3⟩ := hp2
  refine ⟨(p2.1, ⟨⟨e.set.name, e.set.typ, e.set.life, p1.2⟩, p2.2⟩), ⟨?_, ?_⟩, rfl, hst.fresh⟩
  · unfold Signed.c RSet.c
    simp only [a1, b1]
  · exact ⟨⟨hg.1.1, hg.1.2.1, hg.1.2.2.1, a2.mono b3⟩, b2⟩
theorem c_EqualDatum (a b : Slc Datum) (hs : Sat H w) (ha : a.Good H) (hb : b.Good H) : Calls Tryz.prog 84 #[a.v, b.v] w (Ret w (.bool (decide (a.els = b.els)))) := by
  have hla := ha.len
  have hlb := hb.len
  have lima := ha.lim
  have limb := hb.lim
  refine T.enter (vs := [a.v, b.v]) (H := H) Tryz.func84 rfl rfl rfl hs ?_
  repeat (any_goals (first | refine T.seq ?_ | refine T.region ?_ | refine TL.nil ?_ | refine N.next ?_ | refine N.ret_then ?_ | refine T.ret ?_ | refine T.skip ?_ | refine T.block ?_ | (apply T.test; rfl; (exact isx); intro _; rotate_left; intro _; rotate_right) | (apply TL.val; rfl; rfl; (first | exact vpure | exact vread))))
  all_goals (try (first | (apply N.ret_bool; rfl; (exact rvx)) | (apply N.ret_int; rfl; (exact rvx)) | (apply N.ret_val; rfl; (exact rvx))))
  all_goals (try (exact (decide_eq_false (fun h => by have e5 := congrArg List.length h; first | contradiction | omega)).symm))
  refine T.loop (G := Nat) (fun k => [(0, a.v), (1, b.v), (12, intV a.len), (13, intV k)]) (fun _ => H) (fun _ => []) (fun k => k ≤ a.len ∧ EqTo id a.els b.els k) (fun k => a.len - k) 0 ⟨Nat.zero_le _, eqTo_zero⟩ (by (repeat (first | exact True.intro | refine ⟨rfl, ?_⟩ | refine Sub.int rfl (by omega) ?_))) rfl (by (first | exact List.Sublist.refl _ | exact List.nil_sublist _ | exact List.Sublist.cons _ (List.Sublist.refl _) | exact List.Sublist.cons _ (List.Sublist.cons _ (List.Sublist.refl _)))) ?_
  rintro k ⟨hk, hrel⟩
  repeat (any_goals (first | refine T.seq ?_ | refine T.region ?_ | (apply T.regionD wide; rfl) | refine TL.nil ?_ | refine N.next ?_ | refine N.inBlock ?_ | refine N.exit_same ?_ | refine N.exit_then ?_ | refine N.ret_then ?_ | refine N.ret_block ?_ | refine T.ret ?_ | refine T.skip ?_ | refine T.exit ?_ | refine T.block ?_ | (apply T.test; rfl; (exact isx); intro _; rotate_left; intro _; rotate_right) | (apply GT.pure; (iterate 4 rfl); (apply V.aneq; rfl; rfl; exact Tryz.eqGuardType79; exact fun w => eq_Datum _ _ w); decide +kernel) | (apply TL.val; rfl; rfl; (first | exact vpure | exact vread)) | (apply GT.pure; (iterate 4 rfl); (first | exact vpure); decide +kernel) | (apply GT.read; (iterate 4 rfl); (first | exact vpure | exact vread); decide +kernel) | (apply GT.done; decide +kernel; apply N.ofQ)))
  all_goals (try (first | (apply N.ret_bool; rfl; (exact rvx)) | (apply N.ret_int; rfl; (exact rvx)) | (apply N.ret_val; rfl; (exact rvx))))
  all_goals (try (refine N.round (k + 1) ?_ ?_ ?_ ?_ ?_; rotate_left 2; (repeat (first | exact True.intro | refine ⟨rfl, ?_⟩ | refine Sub.int rfl (by omega) ?_)); rfl; (first | exact List.Sublist.refl _ | exact List.nil_sublist _ | exact List.Sublist.cons _ (List.Sublist.refl _) | exact List.Sublist.cons _ (List.Sublist.cons _ (List.Sublist.refl _)))))
  all_goals first
    | omega
    | exact ⟨by omega, eqTo_up (by omega) (by omega) hrel (by assumption)⟩
    | exact (decide_eq_false (fun h => eqTo_noI (k := k) (by omega) (by omega) (by assumption) h)).symm
    | exact (decide_eq_true (eqTo_endI (by omega) hrel (by omega))).symm
theorem c_EqualSig (a b : Slc Sig) (hs : Sat H w) (ha : a.Good H) (hb : b.Good H) : Calls Tryz.prog 85 #[a.v, b.v] w (Ret w (.bool (decide (a.els = b.els)))) := by
  have hla := ha.len
  have hlb := hb.len
  have lima := ha.lim
  have limb := hb.lim
  refine T.enter (vs := [a.v, b.v]) (H := H) Tryz.func85 rfl rfl rfl hs ?_
  repeat (any_goals (first | refine T.seq ?_ | refine T.region ?_ | refine TL.nil ?_ | refine N.next ?_ | refine N.ret_then ?_ | refine T.ret ?_ | refine T.skip ?_ | refine T.block ?_ | (apply T.test; rfl; (exact isx); intro _; rotate_left; intro _; rotate_right) | (apply TL.val; rfl; rfl; (first | exact vpure | exact vread))))
  all_goals (try (first | (apply N.ret_bool; rfl; (exact rvx)) | (apply N.ret_int; rfl; (exact rvx)) | (apply N.ret_val; rfl; (exact rvx))))
  all_goals (try (exact (decide_eq_false (fun h => by have e5 := congrArg List.length h; first | contradiction | omega)).symm))
  refine T.loop (G := Nat) (fun k => [(0, a.v), (1, b.v), (12, intV a.len), (13, intV k)]) (fun _ => H) (fun _ => []) (fun k => k ≤ a.len ∧ EqTo id a.els b.els k) (fun k => a.len - k) 0 ⟨Nat.zero_le _, eqTo_zero⟩ (by (repeat (first | exact True.intro | refine ⟨rfl, ?_⟩ | refine Sub.int rfl (by omega) ?_))) rfl (by (first | exact List.Sublist.refl _ | exact List.nil_sublist _ | exact List.Sublist.cons _ (List.Sublist.refl _) | exact List.Sublist.cons _ (List.Sublist.cons _ (List.Sublist.refl _)))) ?_
  rintro k ⟨hk, hrel⟩
  repeat (any_goals (first | refine T.seq ?_ | refine T.region ?_ | (apply T.regionD wide; rfl) | refine TL.nil ?_ | refine N.next ?_ | refine N.inBlock ?_ | refine N.exit_same ?_ | refine N.exit_then ?_ | refine N.ret_then ?_ | refine N.ret_block ?_ | refine T.ret ?_ | refine T.skip ?_ | refine T.exit ?_ | refine T.block ?_ | (apply T.test; rfl; (exact isx); intro _; rotate_left; intro _; rotate_right) | (apply GT.pure; (iterate 4 rfl); (apply V.aneq; rfl; rfl; exact Tryz.eqGuardType102; exact fun w => eq_Sig _ _ w); decide +kernel) | (apply TL.val; rfl; rfl; (first | exact vpure | exact vread)) | (apply GT.pure; (iterate 4 rfl); (first | exact vpure); decide +kernel) | (apply GT.read; (iterate 4 rfl); (first | exact vpure | exact vread); decide +kernel) | (apply GT.done; decide +kernel; apply N.ofQ)))
  all_goals (try (first | (apply N.ret_bool; rfl; (exact rvx)) | (apply N.ret_int; rfl; (exact rvx)) | (apply N.ret_val; rfl; (exact rvx))))
  all_goals (try (refine N.round (k + 1) ?_ ?_ ?_ ?_ ?_; rotate_left 2; (repeat (first | exact True.intro | refine ⟨rfl, ?_⟩ | refine Sub.int rfl (by omega) ?_)); rfl; (first | exact List.Sublist.refl _ | exact List.nil_sublist _ | exact List.Sublist.cons _ (List.Sublist.refl _) | exact List.Sublist.cons _ (List.Sublist.cons _ (List.Sublist.refl _)))))
  all_goals first
    | omega
    | exact ⟨by omega, eqTo_up (by omega) (by omega) hrel (by assumption)⟩
    | exact (decide_eq_false (fun h => eqTo_noI (k := k) (by omega) (by omega) (by assumption) h)).symm
    | exact (decide_eq_true (eqTo_endI (by omega) hrel (by omega))).symm
theorem c_dsame (a b : Signed) (hpl : placeV a = placeV b) (hs : Sat H w) (ha : Enc.good H a) (hb : Enc.good H b) : Calls Tryz.prog 109 #[sgV a, sgV b] w (Ret w (.bool (decide (a.c = b.c)))) := by
  have h1 : a.set.name = b.set.name := congrArg Question.name hpl
  have h2 : a.set.typ = b.set.typ := congrArg Question.typ hpl
  have he : decide (a.c = b.c) = (decide (a.set.life = b.set.life) && decide (a.set.data.els = b.set.data.els) && decide (a.sigs.els = b.sigs.els)) := by
    rw [Bool.eq_iff_iff]
    simp only [Bool.and_eq_true, decide_eq_true_eq]
    unfold Signed.c RSet.c
    simp only [SignedC.mk.injEq, SetC.mk.injEq, h1, h2, true_and]
  refine T.enter (vs := [sgV a, sgV b]) (H := H) Tryz.func109 rfl rfl rfl hs ?_
  rw [he]
  repeat (any_goals (first | refine T.seq ?_ | refine T.region ?_ | refine TL.nil ?_ | refine N.next ?_ | refine T.ret ?_ | (apply TL.skip; rfl; rfl; rfl) | (apply TL.x; rfl; rfl; (apply X.box (d := 2) (cs := enc a); rfl; rfl; rfl); intro b2 _) | (apply TL.x; rfl; rfl; (apply X.box (d := 3) (cs := enc b); rfl; rfl; rfl); intro b3 _) | (apply TL.callE (f := 84) [a.set.data.v, b.set.data.v] Tryz.call84; (iterate 4 rfl); (exact fun _ hs => c_EqualDatum _ _ hs.sat ha.1.2.2.2 hb.1.2.2.2)) | (apply TL.callE (f := 85) [a.sigs.v, b.sigs.v] Tryz.call85; (iterate 4 rfl); (exact fun _ hs => c_EqualSig _ _ hs.sat ha.2 hb.2)) | (apply TL.val; rfl; rfl; (first | exact vpure | exact vread)) | (apply TL.guard; rfl; rfl; rfl; (exact isx); intro _; rotate_left; intro _; rotate_right)))
  all_goals (try (first | (apply N.ret_bool; rfl; (exact rvx)) | (apply N.ret_int; rfl; (exact rvx)) | (apply N.ret_val; rfl; (exact rvx))))
  all_goals (simp [*])
set_option maxHeartbeats 2000000 in
theorem c_byPlace (s : Slc Signed) (hu : (s.els.map placeV).Nodup) (hs : Sat H w) (hg : s.Good H) : Calls Tryz.prog 102 #[s.v] w (RetO w H (fun _ : Nat => True) (fun b => .map (some b)) (fun _ => H) (fun b => [.any b (mObj qV (plEnts s.els))])) := by
  have hlen := hg.len
  have hlim := hg.lim
  refine T.enter (vs := [s.v]) (H := H) Tryz.func102 rfl rfl rfl hs ?_
  repeat (any_goals (first | refine T.seq ?_ | refine T.region ?_ | refine TL.nil ?_ | refine N.next ?_ | refine T.block ?_ | (apply TL.x; rfl; rfl; (apply X.makeMapN (d := 8) qV; (iterate 4 rfl)); intro bm _) | (apply TL.val; rfl; rfl; (first | exact vpure | exact vread))))
  refine T.loop (G := Nat) (fun k => [(3, .map (some bm)), (9, s.v), (10, intV s.len), (11, intV k)]) (fun _ => H) (fun k => [.any bm (mObj qV (plEnts (s.els.take k)))]) (fun k => k ≤ s.len) (fun k => s.len - k) 0 (Nat.zero_le _) (by (repeat (first | exact True.intro | refine ⟨rfl, ?_⟩ | refine Sub.int rfl (by omega) ?_))) rfl (by (repeat (first | exact List.Sublist.refl _ | exact List.nil_sublist _ | apply List.Sublist.cons_cons | apply List.Sublist.cons))) ?_
  intro k hk
  by_cases hlt : k < s.len
  · have hkl : k < s.els.length := by omega
    have hrow := hg.row (k := k) hlt
    have hnew : ∀ p ∈ plEnts (s.els.take k), p.1 ≠ placeV s.els[k] := fun p hp e => by
      obtain ⟨y, hy, rfl⟩ := List.mem_map.1 hp
      obtain ⟨j, hj, rfl⟩ := List.mem_take_iff_getElem.1 hy
      have hjk : j < k := by omega
      exact List.pairwise_iff_getElem.1 (List.pairwise_map.1 hu) j k (by omega) hkl hjk e
    have hup : plEnts (s.els.take (k + 1)) = plEnts (s.els.take k) ++ [(placeV s.els[k], sgV s.els[k])] := by
      unfold plEnts
      rw [List.take_succ_eq_append_getElem hkl, List.map_append]; rfl
    obtain ⟨x, hx⟩ : ∃ x, s.els[k]'hkl = x := ⟨_, rfl⟩
    rw [hx] at hnew hup
    try rw [hx] at hrow
    obtain ⟨es, hes⟩ : ∃ es, plEnts (s.els.take k) = es := ⟨_, rfl⟩
    rw [hes] at hnew hup ⊢
    repeat (any_goals (first | refine T.seq ?_ | refine T.region ?_ | (apply T.regionD wide; rfl) | refine TL.nil ?_ | refine N.next ?_ | refine N.inBlock ?_ | refine N.exit_same ?_ | refine N.exit_then ?_ | refine T.ret ?_ | refine T.skip ?_ | refine T.exit ?_ | refine T.block ?_ | (apply T.test; rfl; (exact isx); intro _; rotate_left; intro _; rotate_right) | (apply TL.val; rfl; rfl; (apply V.elem (j := k); (iterate 6 rfl); omega; exact hg.at_ (by omega))) | (apply TL.val; rfl; rfl; (apply V.load_H_row; rfl; rfl; rfl; exact hrow; rfl)) | (apply TL.x; rfl; rfl; (apply X.alloc (d := 5); rfl; rfl; rfl); intro b5 _) | (apply TL.x; rfl; rfl; (apply X.storeTo 0 (enc x); (iterate 10 rfl)); intro _ _) | (apply GT.callE (f := 105) [sgV x] Tryz.call105; (iterate 6 rfl); (exact fun _ hs => c_dplace x hs.sat); decide +kernel) | (apply GS.eff; rfl; decide +kernel; rfl; (apply X.mputG 1 (placeV x); rfl; rfl; exact key_q; (iterate 4 rfl); exact mput_toD (aPut_end hnew) rfl); intro _ _) | (apply TL.val; rfl; rfl; (first | exact vpure | exact vread)) | (apply GT.pure; (iterate 4 rfl); (first | exact vpure); decide +kernel) | (apply GT.read; (iterate 4 rfl); (first | exact vpure | exact vread); decide +kernel) | (apply GT.done; decide +kernel; apply N.ofQ) | (apply GT.fork1; decide +kernel)))
    all_goals (try contradiction)
    all_goals (try (exfalso; omega))
    refine N.round (k + 1) (by omega) (by show s.len - (k + 1) < s.len - k; omega) (by (repeat (first | exact True.intro | refine ⟨rfl, ?_⟩ | refine Sub.int rfl (by omega) ?_))) rfl ?_
    rw [hup]
    (repeat (first | exact List.Sublist.refl _ | exact List.nil_sublist _ | apply List.Sublist.cons_cons | apply List.Sublist.cons))
  · have hke : k = s.len := by omega
    subst hke
    rw [List.take_of_length_le (by omega)]
    repeat (any_goals (first | refine T.seq ?_ | refine T.region ?_ | (apply T.regionD wide; rfl) | refine TL.nil ?_ | refine N.next ?_ | refine N.exit_same ?_ | refine N.exit_then ?_ | refine T.ret ?_ | refine T.skip ?_ | refine T.exit ?_ | refine T.block ?_ | (apply T.test; rfl; (exact isx); intro _; rotate_left; intro _; rotate_right) | (apply TL.val; rfl; rfl; (first | exact vpure | exact vread)) | (apply GT.pure; (iterate 4 rfl); (first | exact vpure); decide +kernel) | (apply GT.read; (iterate 4 rfl); (first | exact vpure | exact vread); decide +kernel) | (apply TL.x; rfl; rfl; (first | exact xgrow | exact xput); intro _ _) | (apply GT.fork2 3; decide +kernel)))
    all_goals (try (exfalso; omega))
    exact N.ret1 rfl (by (exact rvx)) fun w hst => ⟨bm, trivial, rfl, hst⟩
end
end Go.Proofs.YthabgdbhgcgemaaGreatDoor
