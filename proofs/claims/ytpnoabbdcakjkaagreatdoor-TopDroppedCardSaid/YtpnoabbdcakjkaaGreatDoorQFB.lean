/- Walks: forwarding resolvers, what is valid. -/
import Derived.Test.YtpnoabbdcakjkaaGreatDoorQTac
import Derived.Test.YtpnoabbdcakjkaaGreatDoorQEngC
import Derived.Test.YtpnoabbdcakjkaaGreatDoorQDataF
import Derived.Test.YtpnoabbdcakjkaaGreatDoorQYT
import Derived.Test.YtpnoabbdcakjkaaGreatDoorQWL
import Derived.Test.YtpnoabbdcakjkaaGreatDoorQWG
namespace Go.Proofs.YtpnoabbdcakjkaaGreatDoor
set_option linter.unusedVariables false
set_option linter.unusedSimpArgs false
open Go Go.RowKit
set_option maxRecDepth 20000

theorem c_betweenF (x lo hi : Int) (H : Hp) (w : World) (hs : Sat H w) : Calls Tryz.prog 21 #[intV x, intV lo, intV hi] w (Ret w (.bool (decide (lo ≤ x ∧ x ≤ hi)))) := by
  refine T.enter (vs := [intV x, intV lo, intV hi]) (H := H) Tryz.func21 rfl rfl rfl hs ?_
  repeat (any_goals (first | refine T.seq ?_ | refine T.region ?_ | refine TL.nil ?_ | refine N.next ?_ | refine N.inBlock ?_ | refine N.exit_same ?_ | refine N.exit_then ?_ | refine N.ret_then ?_ | refine N.ret_block ?_ | (apply N.exit_other; rfl) | refine T.ret ?_ | refine T.skip ?_ | refine T.exit ?_ | refine T.block ?_ | (apply T.cond_true; rfl) | (apply T.cond_false; rfl) | (apply T.test; rfl; (exact isx); intro _; rotate_left; intro _; rotate_right) | (apply TL.skip; rfl; rfl; rfl) | (apply TL.skip_none; rfl; rfl) | (apply TL.val; rfl; rfl; (first | exact vpure | exact vread)) | (apply TL.x; rfl; rfl; (first | exact xgrow | exact xput); intro _ _) | (apply TL.guard; rfl; rfl; rfl; (exact isx); intro _; rotate_left; intro _; rotate_right)))
  all_goals (try (first | (apply N.ret_bool; rfl; (exact rvx)) | (apply N.ret_int; rfl; (exact rvx)) | (apply N.ret_val; rfl; (exact rvx))))
  all_goals (first | rfl | (rw [Bool.eq_iff_iff]; simp only [decide_eq_true_eq, Bool.false_eq_true, Bool.true_eq_false, true_iff, false_iff, iff_true, iff_false]; omega))
def UpAt (own : Int) (l : List Int) (j : Nat) (h : j < l.length) : Prop := (1 ≤ l[j] ∧ l[j] ≤ 1000000) ∧ l[j] ≠ own ∧ ∀ i (hi : i < j), l[i]'(by omega) ≠ l[j]
def UpsTo (own : Int) (l : List Int) (k : Nat) : Prop := ∀ j (h : j < l.length), j < k → UpAt own l j h
theorem upsTo_zero {own : Int} {l : List Int} : UpsTo own l 0 := fun _ _ h => by omega
theorem upsTo_up {own : Int} {l : List Int} {k : Nat} (hk : k < l.length) (h : UpsTo own l k) (h1 : UpAt own l k hk) : UpsTo own l (k + 1) := fun j hj hjk => by
  by_cases e : j = k
  · subst e; exact h1
  · exact h j hj (by omega)
theorem upsTo_iff (own : Int) (l : List Int) : upsOK own l = true ↔ ((1 ≤ l.length ∧ l.length ≤ 8) ∧ UpsTo own l l.length) := by
  rw [upsOK_iff, nodup_iff]
  constructor
  · rintro ⟨h1, h2, h3⟩
    exact ⟨h1, fun j hj _ => ⟨(h2 _ (List.getElem_mem hj)).1, (h2 _ (List.getElem_mem hj)).2, fun i hi => h3 j hj i hi⟩⟩
  · rintro ⟨h1, h2⟩
    refine ⟨h1, fun a ha => ?_, fun j hj i hi => (h2 j hj hj).2.2 i hi⟩
    obtain ⟨j, hj, rfl⟩ := List.mem_iff_getElem.1 ha
    exact ⟨(h2 j hj hj).1, (h2 j hj hj).2.1⟩
theorem ups_no {own : Int} {l : List Int} (h : ¬ (1 ≤ l.length ∧ l.length ≤ 8)) : false = upsOK own l := (Bool.eq_false_iff.2 fun h' => h ((upsTo_iff _ _).1 h').1).symm
theorem ups_noAt {own : Int} {l : List Int} {k : Nat} (hk : k < l.length) (h : ¬ UpAt own l k hk) : false = upsOK own l := (Bool.eq_false_iff.2 fun h' => h (((upsTo_iff _ _).1 h').2 k hk hk)).symm
theorem ups_yes {own : Int} {l : List Int} {k : Nat} (h1 : 1 ≤ l.length ∧ l.length ≤ 8) (h : UpsTo own l k) (hk : l.length ≤ k) : true = upsOK own l := ((upsTo_iff _ _).2 ⟨h1, fun j hj _ => h j hj (by omega)⟩).symm
theorem take_any {l : List Int} {k : Nat} (hk : k < l.length) : ((l.take k).any fun y => decide (l[k] = y)) = false ↔ ∀ i (hi : i < k), l[i]'(by omega) ≠ l[k] := by
  rw [List.any_eq_false]
  constructor
  · intro h i hi e
    refine h l[i] (List.mem_take_iff_getElem.2 ⟨i, by omega, rfl⟩) ?_
    rw [decide_eq_true_iff]; exact e.symm
  · intro h x hx
    obtain ⟨i, hi, rfl⟩ := List.mem_take_iff_getElem.1 hx
    rw [decide_eq_true_iff]
    exact fun e => h i (by omega) e.symm
theorem c_upsOK (l : Slc Int) (own : Int) (H : Hp) (w : World) (hs : Sat H w) (hg : l.Good H) : Calls Tryz.prog 55 #[l.v, intV own] w (Ret w (.bool (upsOK own l.els))) := by
  have hlen : l.els.length = l.len := hg.len
  have hlim := hg.lim
  have hcap := hg.cap
  refine T.enter (vs := [l.v, intV own]) (H := H) Tryz.func55 rfl rfl rfl hs ?_
  repeat (any_goals (first | refine T.seq ?_ | refine T.region ?_ | refine TL.nil ?_ | refine N.next ?_ | refine N.inBlock ?_ | refine N.exit_same ?_ | refine N.exit_then ?_ | refine N.ret_then ?_ | refine N.ret_block ?_ | (apply N.exit_other; rfl) | refine T.ret ?_ | refine T.skip ?_ | refine T.exit ?_ | refine T.block ?_ | (apply T.cond_true; rfl) | (apply T.cond_false; rfl) | (apply T.test; rfl; (exact isx); intro _; rotate_left; intro _; rotate_right) | (apply TL.skip; rfl; rfl; rfl) | (apply TL.skip_none; rfl; rfl) | (apply TL.call0 (f := 21) Tryz.call21; rfl; rfl; rfl; (exact fun _ hs => c_betweenF _ _ _ _ _ hs.sat)) | (apply TL.val; rfl; rfl; (first | exact vpure | exact vread)) | (apply TL.x; rfl; rfl; (first | exact xgrow | exact xput); intro _ _) | (apply TL.guard; rfl; rfl; rfl; (exact isx); intro _; rotate_left; intro _; rotate_right)))
  all_goals (try (first | (apply N.ret_bool; rfl; (exact rvx)) | (apply N.ret_int; rfl; (exact rvx)) | (apply N.ret_val; rfl; (exact rvx))))
  all_goals first
    | exact ups_no (by omega)
    | skip
  refine T.loop (G := Nat) (fun k => [(0, l.v), (1, intV own), (11, l.v), (12, intV l.len), (13, intV k)]) (fun _ => H) (fun _ => []) (fun k => k ≤ l.len ∧ UpsTo own l.els k) (fun k => l.len - k) 0 ⟨Nat.zero_le _, upsTo_zero⟩ (by (repeat (first | exact True.intro | refine ⟨rfl, ?_⟩ | refine Sub.int rfl (by omega) ?_))) rfl (by (first | exact List.Sublist.refl _ | exact List.nil_sublist _ | exact List.Sublist.cons _ (List.Sublist.refl _) | exact List.Sublist.cons _ (List.Sublist.cons _ (List.Sublist.refl _)))) ?_
  rintro k ⟨hk, hrel⟩
  have hto : k ≤ l.len → (l.to ((k : Int)).toNat).Good H := fun h => hg.to (by omega)
  have htk : (l.to ((k : Int)).toNat).els = l.els.take k := by
    rw [Int.toNat_natCast]; rfl
  repeat (any_goals (first | refine T.seq ?_ | refine T.region ?_ | refine TL.nil ?_ | refine N.next ?_ | refine N.inBlock ?_ | refine N.exit_same ?_ | refine N.exit_then ?_ | refine N.ret_then ?_ | refine N.ret_block ?_ | (apply N.exit_other; rfl) | refine T.ret ?_ | refine T.skip ?_ | refine T.exit ?_ | refine T.block ?_ | (apply T.cond_true; rfl) | (apply T.cond_false; rfl) | (apply T.test; rfl; (exact isx); intro _; rotate_left; intro _; rotate_right) | (apply TL.skip; rfl; rfl; rfl) | (apply TL.skip_none; rfl; rfl) | (apply TL.call0 (f := 21) Tryz.call21; rfl; rfl; rfl; (exact fun _ hs => c_betweenF _ _ _ _ _ hs.sat)) | (apply TL.val; rfl; rfl; (apply V.sliceTo (s := l); (iterate 5 rfl); (constructor <;> omega); exact hcap)) | (apply TL.call0 (f := 105) Tryz.call105; rfl; rfl; rfl; (exact fun _ hs => c_ContInt _ _ _ _ hs.sat (hto hk))) | (apply TL.val; rfl; rfl; (first | exact vpure | exact vread)) | (apply TL.x; rfl; rfl; (first | exact xgrow | exact xput); intro _ _) | (apply TL.guard; rfl; rfl; rfl; (exact isx); intro _; rotate_left; intro _; rotate_right)))
  all_goals (try (first | (apply N.ret_bool; rfl; (exact rvx)) | (apply N.ret_int; rfl; (exact rvx)) | (apply N.ret_val; rfl; (exact rvx))))
  all_goals (try (refine N.round (k + 1) ?_ ?_ ?_ ?_ ?_; rotate_left 2; (repeat (first | exact True.intro | refine ⟨rfl, ?_⟩ | refine Sub.int rfl (by omega) ?_)); rfl; (first | exact List.Sublist.refl _ | exact List.nil_sublist _ | exact List.Sublist.cons _ (List.Sublist.refl _) | exact List.Sublist.cons _ (List.Sublist.cons _ (List.Sublist.refl _)))))
  all_goals (try rw [htk] at *)
  all_goals first
    | omega
    | exact ⟨by omega, upsTo_up (by omega) hrel ⟨by assumption, by assumption, (take_any (by omega)).1 (by assumption)⟩⟩
    | exact ups_noAt (k := k) (by omega) (by
        rintro ⟨h1, h2, h3⟩
        first
          | contradiction
          | (have h4 := (take_any (by omega)).2 h3
             simp [h4] at *))
    | exact ups_yes (by omega) hrel (by omega)
    | trace_state
end Go.Proofs.YtpnoabbdcakjkaaGreatDoor
namespace Go.Proofs.YtpnoabbdcakjkaaGreatDoor
set_option linter.unusedVariables false
set_option linter.unusedSimpArgs false
open Go Go.RowKit
open Enc (enc)
set_option maxRecDepth 20000

def stCells (f : Fwd) (now : Int) (sent : Value) : List Value := [strV f.q.name, intV f.q.typ, intV f.own, .slice f.ups.A f.ups.len f.ups.cap, intV f.at_, intV f.tried, intV f.til, intV f.id, .bool f.done, .bool f.dark, intV f.ans.kind, .slice f.ans.sets.A f.ans.sets.len f.ans.sets.cap, strV f.ans.cut, intV now, sent]
theorem cells_part {H : Hp} {b o : Nat} {cs vs : List Value} (h : H.cells b o cs) (j m : Nat) (hv : (cs.drop j).take m = vs) : H.cells b (o + j) vs := by
  intro i v hi
  rw [← hv, List.getElem?_take] at hi
  split at hi
  · rw [List.getElem?_drop] at hi
    have := h (j + i) v hi
    rwa [← Nat.add_assoc] at this
  · cases hi
theorem put_cells (H : Hp) (b : Nat) (cs : List Value) (T : TypeId) : (H.put b (.cells cs.toArray T (0, 0))).cells b 0 cs := by
  intro j v hj
  unfold Hp.cell Hp.put
  simp [hj]
theorem c_waits (f : Fwd) (now : Int) (sv : Value) (b : Nat) (H : Hp) (w : World) (hs : Sat H w) (hb : H.cells b 0 (stCells f now sv)) : Calls Tryz.prog 33 #[.pointer (some ⟨b, 0, none⟩)] w (Ret w (.bool (waitsC f.c now))) := by
  refine T.enter (vs := [.pointer (some ⟨b, 0, none⟩)]) (H := H) Tryz.func33 rfl rfl rfl hs ?_
  have e : waitsC f.c now = (!f.done && !f.dark && decide (now < f.til)) := rfl
  rw [e]
  repeat (any_goals (first | refine T.seq ?_ | refine T.region ?_ | (apply T.regionD wide; rfl) | refine TL.nil ?_ | refine N.next ?_ | refine N.inBlock ?_ | refine N.exit_same ?_ | refine N.exit_then ?_ | refine N.ret_then ?_ | refine N.ret_block ?_ | (apply N.exit_other; rfl) | refine T.ret ?_ | refine T.skip ?_ | refine T.exit ?_ | refine T.block ?_ | (apply T.cond_true; rfl) | (apply T.cond_false; rfl) | (apply T.test; rfl; (exact isx); intro _; rotate_left; intro _; rotate_right) | (apply TL.skip; rfl; rfl; rfl) | (apply TL.skip_none; rfl; rfl) | (apply GT.skip; rfl; rfl; rfl; decide +kernel) | (apply TL.val; rfl; rfl; (apply V.nilCheck; rfl)) | (apply GT.pure; (iterate 4 rfl); (apply V.nilCheck; rfl); decide +kernel) | (apply GT.read; (iterate 4 rfl); (apply V.nilCheck; rfl); decide +kernel) | (apply TL.val; rfl; rfl; (apply V.load_H; rfl; rfl; rfl; first | exact hb 0 _ rfl | exact hb 1 _ rfl | exact hb 2 _ rfl | exact hb 3 _ rfl | exact hb 4 _ rfl | exact hb 5 _ rfl | exact hb 6 _ rfl | exact hb 7 _ rfl | exact hb 8 _ rfl | exact hb 9 _ rfl | exact hb 10 _ rfl | exact hb 11 _ rfl | exact hb 12 _ rfl | exact hb 13 _ rfl | exact hb 14 _ rfl)) | (apply GT.pure; (iterate 4 rfl); (apply V.load_H; rfl; rfl; rfl; first | exact hb 0 _ rfl | exact hb 1 _ rfl | exact hb 2 _ rfl | exact hb 3 _ rfl | exact hb 4 _ rfl | exact hb 5 _ rfl | exact hb 6 _ rfl | exact hb 7 _ rfl | exact hb 8 _ rfl | exact hb 9 _ rfl | exact hb 10 _ rfl | exact hb 11 _ rfl | exact hb 12 _ rfl | exact hb 13 _ rfl | exact hb 14 _ rfl); decide +kernel) | (apply GT.read; (iterate 4 rfl); (apply V.load_H; rfl; rfl; rfl; first | exact hb 0 _ rfl | exact hb 1 _ rfl | exact hb 2 _ rfl | exact hb 3 _ rfl | exact hb 4 _ rfl | exact hb 5 _ rfl | exact hb 6 _ rfl | exact hb 7 _ rfl | exact hb 8 _ rfl | exact hb 9 _ rfl | exact hb 10 _ rfl | exact hb 11 _ rfl | exact hb 12 _ rfl | exact hb 13 _ rfl | exact hb 14 _ rfl); decide +kernel) | (apply TL.val; rfl; rfl; (first | exact vpure | exact vread)) | (apply GT.pure; (iterate 4 rfl); (first | exact vpure); decide +kernel) | (apply GT.read; (iterate 4 rfl); (first | exact vpure | exact vread); decide +kernel) | (apply GT.done; decide +kernel; apply N.ofQ) | (apply GT.adv; rfl) | (apply TL.x; rfl; rfl; (first | exact xgrow | exact xput); intro _ _) | (apply GS.grow; rfl; rfl; (first | exact xgrow); intro _ _) | (apply GS.eff; rfl; decide +kernel; rfl; (first | exact xput); intro _ _) | (apply TL.guard; rfl; rfl; rfl; (exact isx); intro _; rotate_left; intro _; rotate_right) | (apply GT.guard; (iterate 4 rfl); (exact isx); intro _; rotate_left; intro _; rotate_right) | (apply GT.fork1; decide +kernel) | (apply GT.fork2 1; decide +kernel) | (apply GT.fork2 2; decide +kernel) | (apply GT.fork2 3; decide +kernel) | (apply GT.fork2 4; decide +kernel) | (apply GT.fork2 5; decide +kernel) | (apply GT.fork2 6; decide +kernel) | (apply GT.fork2 7; decide +kernel) | (apply GT.fork2 8; decide +kernel) | (apply GT.fork2 9; decide +kernel) | (apply GT.fork2 10; decide +kernel) | (apply GT.fork2 11; decide +kernel) | (apply GT.fork2 12; decide +kernel) | (apply GT.fork2 13; decide +kernel) | (apply GT.fork2 14; decide +kernel)))
  all_goals (try (first | (apply N.ret_bool; rfl; (exact rvx)) | (apply N.ret_int; rfl; (exact rvx)) | (apply N.ret_val; rfl; (exact rvx))))
  all_goals (simp [*])
def queryMsg (f : Fwd) : Msg := ⟨1, f.id, f.own, f.ups.els.getD f.at_.toNat 0, f.q, ⟨0, Slc.nil _, []⟩⟩
theorem up_mem {f : Fwd} {H : Hp} (hg : Enc.good H f) : I64 (f.ups.els.getD f.at_.toNat 0) := by
  rw [List.getD_eq_getElem?_getD]
  cases h : f.ups.els[f.at_.toNat]? with
  | none => show I64 0; decide
  | some x => exact hg.2.2.1.els x (List.mem_of_getElem? h)
theorem queryMsg_good {f : Fwd} {H : Hp} (hg : Enc.good H f) : Enc.good H (queryMsg f) := ⟨by show I64 1; decide, hg.2.2.2.2.2.2.1, hg.2.1, up_mem hg, hg.1, by show I64 0; decide, Slc.nil_good, by show LenOk []; decide⟩
theorem up_cell {f : Fwd} {H : Hp} (hg : f.ups.Good H) (ha : 0 ≤ f.at_ ∧ f.at_ < f.ups.len) : H.cell f.ups.b (f.ups.o + f.at_.toNat * 1) = some (intV (f.ups.els.getD f.at_.toNat 0)) := by
  have hk : f.at_.toNat < f.ups.len := by omega
  have hl := hg.len
  have e : f.ups.els.getD f.at_.toNat 0 = f.ups.els[f.at_.toNat]'(by omega) := by
    rw [List.getD_eq_getElem?_getD, List.getElem?_eq_getElem (by omega)]; rfl
  rw [e]
  exact hg.cell0 hk rfl
theorem c_query (f : Fwd) (now : Int) (sv : Value) (b : Nat) (H : Hp) (w : World) (hs : Sat H w) (hb : H.cells b 0 (stCells f now sv)) (hg : Enc.good H f) (ha : 0 ≤ f.at_ ∧ f.at_ < f.ups.len) : Calls Tryz.prog 35 #[.pointer (some ⟨b, 0, none⟩)] w (Ret w (.agg (enc (queryMsg f)).toArray)) := by
  refine T.enter (vs := [.pointer (some ⟨b, 0, none⟩)]) (H := H) Tryz.func35 rfl rfl rfl hs ?_
  have hu := up_cell hg.2.2.1 ha
  have hA : f.ups.A = some ⟨f.ups.b, f.ups.o, none⟩ := hg.2.2.1.at_ (by omega)
  repeat (any_goals (first | refine T.seq ?_ | refine T.region ?_ | (apply T.regionD wide; rfl) | refine TL.nil ?_ | refine N.next ?_ | refine N.inBlock ?_ | refine N.exit_same ?_ | refine N.exit_then ?_ | refine N.ret_then ?_ | refine N.ret_block ?_ | (apply N.exit_other; rfl) | refine T.ret ?_ | refine T.skip ?_ | refine T.exit ?_ | refine T.block ?_ | (apply T.cond_true; rfl) | (apply T.cond_false; rfl) | (apply T.test; rfl; (exact isx); intro _; rotate_left; intro _; rotate_right) | (apply TL.skip; rfl; rfl; rfl) | (apply TL.skip_none; rfl; rfl) | (apply GT.skip; rfl; rfl; rfl; decide +kernel) | (apply TL.val; rfl; rfl; (apply V.nilCheck; rfl)) | (apply GT.pure; (iterate 4 rfl); (apply V.nilCheck; rfl); decide +kernel) | (apply GT.read; (iterate 4 rfl); (apply V.nilCheck; rfl); decide +kernel) | (apply TL.val; rfl; rfl; (apply V.elemI; (iterate 5 rfl); exact ha; exact hA)) | (apply GT.pure; (iterate 4 rfl); (apply V.elemI; (iterate 5 rfl); exact ha; exact hA); decide +kernel) | (apply GT.read; (iterate 4 rfl); (apply V.elemI; (iterate 5 rfl); exact ha; exact hA); decide +kernel) | (apply TL.val; rfl; rfl; (apply V.load_H_row; rfl; rfl; rfl; exact cells_part hb 0 2 rfl; rfl)) | (apply GT.pure; (iterate 4 rfl); (apply V.load_H_row; rfl; rfl; rfl; exact cells_part hb 0 2 rfl; rfl); decide +kernel) | (apply GT.read; (iterate 4 rfl); (apply V.load_H_row; rfl; rfl; rfl; exact cells_part hb 0 2 rfl; rfl); decide +kernel) | (apply TL.val; rfl; rfl; (apply V.load_H; rfl; rfl; rfl; first | exact hu | (first | exact hb 0 _ rfl | exact hb 1 _ rfl | exact hb 2 _ rfl | exact hb 3 _ rfl | exact hb 4 _ rfl | exact hb 5 _ rfl | exact hb 6 _ rfl | exact hb 7 _ rfl | exact hb 8 _ rfl | exact hb 9 _ rfl | exact hb 10 _ rfl | exact hb 11 _ rfl | exact hb 12 _ rfl | exact hb 13 _ rfl | exact hb 14 _ rfl))) | (apply GT.pure; (iterate 4 rfl); (apply V.load_H; rfl; rfl; rfl; first | exact hu | (first | exact hb 0 _ rfl | exact hb 1 _ rfl | exact hb 2 _ rfl | exact hb 3 _ rfl | exact hb 4 _ rfl | exact hb 5 _ rfl | exact hb 6 _ rfl | exact hb 7 _ rfl | exact hb 8 _ rfl | exact hb 9 _ rfl | exact hb 10 _ rfl | exact hb 11 _ rfl | exact hb 12 _ rfl | exact hb 13 _ rfl | exact hb 14 _ rfl)); decide +kernel) | (apply GT.read; (iterate 4 rfl); (apply V.load_H; rfl; rfl; rfl; first | exact hu | (first | exact hb 0 _ rfl | exact hb 1 _ rfl | exact hb 2 _ rfl | exact hb 3 _ rfl | exact hb 4 _ rfl | exact hb 5 _ rfl | exact hb 6 _ rfl | exact hb 7 _ rfl | exact hb 8 _ rfl | exact hb 9 _ rfl | exact hb 10 _ rfl | exact hb 11 _ rfl | exact hb 12 _ rfl | exact hb 13 _ rfl | exact hb 14 _ rfl)); decide +kernel) | (apply TL.val; rfl; rfl; (apply V.build; (iterate 6 rfl))) | (apply GT.pure; (iterate 4 rfl); (apply V.build; (iterate 6 rfl)); decide +kernel) | (apply GT.read; (iterate 4 rfl); (apply V.build; (iterate 6 rfl)); decide +kernel) | (apply TL.val; rfl; rfl; (first | exact vpure | exact vread)) | (apply GT.pure; (iterate 4 rfl); (first | exact vpure); decide +kernel) | (apply GT.read; (iterate 4 rfl); (first | exact vpure | exact vread); decide +kernel) | (apply GT.done; decide +kernel; apply N.ofQ) | (apply GT.adv; rfl) | (apply TL.x; rfl; rfl; (first | exact xgrow | exact xput); intro _ _) | (apply GS.grow; rfl; rfl; (first | exact xgrow); intro _ _) | (apply GS.eff; rfl; decide +kernel; rfl; (first | exact xput); intro _ _) | (apply TL.guard; rfl; rfl; rfl; (exact isx); intro _; rotate_left; intro _; rotate_right) | (apply GT.guard; (iterate 4 rfl); (exact isx); intro _; rotate_left; intro _; rotate_right) | (apply GT.fork1; decide +kernel) | (apply GT.fork2 1; decide +kernel) | (apply GT.fork2 2; decide +kernel) | (apply GT.fork2 3; decide +kernel) | (apply GT.fork2 4; decide +kernel) | (apply GT.fork2 5; decide +kernel) | (apply GT.fork2 6; decide +kernel) | (apply GT.fork2 7; decide +kernel) | (apply GT.fork2 8; decide +kernel) | (apply GT.fork2 9; decide +kernel) | (apply GT.fork2 10; decide +kernel) | (apply GT.fork2 11; decide +kernel) | (apply GT.fork2 12; decide +kernel) | (apply GT.fork2 13; decide +kernel) | (apply GT.fork2 14; decide +kernel)))
  all_goals (try (first | (apply N.ret_bool; rfl; (exact rvx)) | (apply N.ret_int; rfl; (exact rvx)) | (apply N.ret_val; rfl; (exact rvx))))
  all_goals first | rfl | trace_state
end Go.Proofs.YtpnoabbdcakjkaaGreatDoor
namespace Go.Proofs.YtpnoabbdcakjkaaGreatDoor
set_option linter.unusedVariables false
set_option linter.unusedSimpArgs false
open Go Go.RowKit
open Enc (enc)
set_option maxRecDepth 20000

theorem fwdc_iff (f : Fwd) (hlen : f.ups.els.length = f.ups.len) (hs : f.ans.sets.els.length = f.ans.sets.len) : fwdOK f.c = true ↔ nameOK f.q.name = true ∧ (1 ≤ f.q.typ ∧ f.q.typ ≤ 8) ∧ (1 ≤ f.own ∧ f.own ≤ 1000000) ∧ upsOK f.own f.ups.els = true ∧ (0 ≤ f.at_ ∧ f.at_ < f.ups.len) ∧ (0 ≤ f.tried ∧ f.tried ≤ 8) ∧ (0 ≤ f.til ∧ f.til ≤ 10000005) ∧ (0 ≤ f.id ∧ f.id ≤ 65535) ∧ ¬ (f.done = true ∧ f.dark = true) ∧ (f.dark = true ↔ f.tried = 8) ∧
    (f.done = true → answerOK f.ans.c = true ∧ f.ans.kind ≠ 7) ∧ (f.done = false → f.ans.kind = 0 ∧ f.ans.sets.len = 0 ∧ f.ans.cut = []) := by
  rw [fwdOK_iff]
  have e1 : questionOK f.c.q = true ↔ nameOK f.q.name = true ∧ (1 ≤ f.q.typ ∧ f.q.typ ≤ 8) := by
    show questionOK f.q = true ↔ _
    unfold questionOK
    rw [Bool.and_eq_true, decide_eq_true_iff]
  have e2 : f.c.ans = ansNil ↔ f.ans.kind = 0 ∧ f.ans.sets.len = 0 ∧ f.ans.cut = [] := by
    show Answer.c f.ans = ansNil ↔ _
    unfold Answer.c ansNil
    simp only [AnswerC.mk.injEq, List.map_eq_nil_iff, ← hs, List.length_eq_zero_iff]
  have e3 : (if f.c.done = true then answerOK f.c.ans = true ∧ f.c.ans.kind ≠ 7 else f.c.ans = ansNil) ↔ ((f.done = true → answerOK f.ans.c = true ∧ f.ans.kind ≠ 7) ∧ (f.done = false → f.ans.kind = 0 ∧ f.ans.sets.len = 0 ∧ f.ans.cut = [])) := by
    rw [e2]
    show (if f.done = true then answerOK f.ans.c = true ∧ f.ans.kind ≠ 7 else _) ↔ _
    cases f.done <;> simp
  rw [e1, e3, and_assoc]
  show _ ∧ _ ∧ _ ∧ _ ∧ (0 ≤ f.at_ ∧ f.at_ < (f.ups.els.length : Int)) ∧ _ ↔ _
  rw [hlen]
  exact Iff.rfl
theorem fwdc_no {f : Fwd} (hlen : f.ups.els.length = f.ups.len) (hs : f.ans.sets.els.length = f.ans.sets.len) (h : (nameOK f.q.name = true ∧ (1 ≤ f.q.typ ∧ f.q.typ ≤ 8) ∧ (1 ≤ f.own ∧ f.own ≤ 1000000) ∧ upsOK f.own f.ups.els = true ∧ (0 ≤ f.at_ ∧ f.at_ < f.ups.len) ∧ (0 ≤ f.tried ∧ f.tried ≤ 8) ∧ (0 ≤ f.til ∧ f.til ≤ 10000005) ∧ (0 ≤ f.id ∧ f.id ≤ 65535) ∧ ¬ (f.done = true ∧ f.dark = true) ∧ (f.dark = true ↔ f.tried = 8) ∧
    (f.done = true → answerOK f.ans.c = true ∧ f.ans.kind ≠ 7) ∧ (f.done = false → f.ans.kind = 0 ∧ f.ans.sets.len = 0 ∧ f.ans.cut = [])) → False) : false = fwdOK f.c := (Bool.eq_false_iff.2 fun h' => h ((fwdc_iff f hlen hs).1 h')).symm
def doneMsg (f : Fwd) : Msg := ⟨2, 0, 1, 1, f.q, f.ans⟩
theorem doneMsg_ok (f : Fwd) : msgOK (doneMsg f).c = (questionOK f.q && answerOK f.ans.c) := by
  rw [Bool.eq_iff_iff, msgOK_ands, Bool.and_eq_true]
  show (0 ≤ (0 : Int) ∧ (0 : Int) ≤ 65535) ∧ (1 ≤ (1 : Int) ∧ (1 : Int) ≤ 1000000) ∧ (1 ≤ (1 : Int) ∧ (1 : Int) ≤ 1000000) ∧ questionOK f.q = true ∧ (((2 : Int) = 1 ∧ _) ∨ ((2 : Int) = 2 ∧ answerOK f.ans.c = true)) ↔ _
  simp
set_option maxHeartbeats 2000000 in
theorem c_fvalid (f : Fwd) (H : Hp) (w : World) (hs : Sat H w) (hR : Rules H) (hg : Enc.good H f) : Calls Tryz.prog 22 #[.agg (enc f).toArray] w (Ret w (.bool (fwdOK f.c))) := by
  have hg' := hg
  obtain ⟨g1, g2, g3, g4, g5, g6, g7, g8⟩ := hg
  have hlen : f.ups.els.length = f.ups.len := g3.len
  have hsl : f.ans.sets.els.length = f.ans.sets.len := g8.2.1.len
  have hlim := g3.lim
  have hm : Enc.good H (doneMsg f) := ⟨by show I64 2; decide, by show I64 0; decide, by show I64 1; decide, by show I64 1; decide, g1, g8⟩
  refine T.enter (vs := [.agg (enc f).toArray]) (H := H) Tryz.func22 rfl rfl rfl hs ?_
  repeat (any_goals (first | refine T.seq ?_ | refine T.region ?_ | refine TL.nil ?_ | refine N.next ?_ | refine N.inBlock ?_ | refine N.exit_same ?_ | refine N.exit_then ?_ | refine N.ret_then ?_ | refine N.ret_block ?_ | (apply N.exit_other; rfl) | refine T.ret ?_ | refine T.skip ?_ | refine T.exit ?_ | refine T.block ?_ | (apply T.cond_true; rfl) | (apply T.cond_false; rfl) | (apply T.test; rfl; (exact isx); intro _; rotate_left; intro _; rotate_right) | (apply TL.skip; rfl; rfl; rfl) | (apply TL.skip_none; rfl; rfl) | (apply TL.call0 (f := 54) Tryz.call54; rfl; rfl; rfl; (exact fun _ hs => c_nameValid _ _ _ hs.sat g1.1)) | (apply TL.call0 (f := 21) Tryz.call21; rfl; rfl; rfl; (exact fun _ hs => c_betweenF _ _ _ _ _ hs.sat)) | (apply TL.call0 (f := 55) Tryz.call55; rfl; rfl; rfl; (exact fun _ hs => c_upsOK f.ups f.own _ _ hs.sat g3)) | (apply TL.val; rfl; rfl; (apply V.bneq; rfl; rfl; rfl)) | (apply TL.val; rfl; rfl; (apply V.build; (iterate 6 rfl))) | (apply TL.callE (f := 27) [.agg (enc (doneMsg f)).toArray] Tryz.call27; (iterate 4 rfl); (exact fun _ hs => c_packetValid (doneMsg f) _ _ hs.sat hR hm)) | (apply TL.val; rfl; rfl; (first | exact vpure | exact vread)) | (apply TL.x; rfl; rfl; (first | exact xgrow | exact xput); intro _ _) | (apply TL.guard; rfl; rfl; rfl; (exact isx); intro _; rotate_left; intro _; rotate_right)))
  all_goals (try (first | (apply N.ret_bool; rfl; (exact rvx)) | (apply N.ret_int; rfl; (exact rvx)) | (apply N.ret_val; rfl; (exact rvx))))
  all_goals first
    | exact fwdc_no hlen hsl (by
        rintro ⟨b1, b2, b3, b4, b5, b6, b7, b8, b9, b10, b11, b12⟩
        first
          | contradiction
          | omega)
    | (have h1 := fwdc_iff f hlen hsl
       have h2 := doneMsg_ok f
       have h3 : questionOK f.q = (nameOK f.q.name && decide (1 ≤ f.q.typ ∧ f.q.typ ≤ 8)) := rfl
       grind)
    | trace_state
end Go.Proofs.YtpnoabbdcakjkaaGreatDoor
