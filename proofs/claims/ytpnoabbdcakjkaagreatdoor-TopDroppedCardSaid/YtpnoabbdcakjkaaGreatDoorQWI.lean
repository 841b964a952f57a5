/- Walks: nets: order, fates, what is valid. -/
import Derived.Test.YtpnoabbdcakjkaaGreatDoorQWG
import Derived.Test.YtpnoabbdcakjkaaGreatDoorQEngC
namespace Go.Proofs.YtpnoabbdcakjkaaGreatDoor
set_option linter.unusedVariables false
set_option linter.unusedSimpArgs false
open Go Go.RowKit
open Enc (enc)
set_option maxRecDepth 20000

def orderI (a b : Transit) : Int := orL [cmpI a.at_ b.at_, cmpI a.seq b.seq]
theorem orderI_pos (a b : Transit) : 0 < orderI a b ↔ netLe a.c b.c = false := by
  unfold orderI netLe
  rw [show a.c.at_ = a.at_ from rfl, show b.c.at_ = b.at_ from rfl, show a.c.seq = a.seq from rfl, show b.c.seq = b.seq from rfl, decide_eq_false_iff_not]
  simp only [orL, cmpI]
  by_cases h1 : a.at_ < b.at_
  · simp [h1]
  · by_cases h2 : b.at_ < a.at_
    · simp [h1, h2] <;> omega
    · by_cases h3 : a.seq < b.seq
      · simp [h1, h2, h3] <;> omega
      · by_cases h4 : b.seq < a.seq
        · simp [h1, h2, h3, h4] <;> omega
        · simp [h1, h2, h3, h4] <;> omega
theorem c_order (a b : Transit) (H : Hp) (w : World) (hs : Sat H w) : Calls Tryz.prog 57 #[.agg (enc a).toArray, .agg (enc b).toArray] w (Ret w (intV (orderI a b))) := by
  refine T.enter (vs := [.agg (enc a).toArray, .agg (enc b).toArray]) (H := H) Tryz.func57 rfl rfl rfl hs ?_
  repeat (any_goals (first | refine T.seq ?_ | refine T.region ?_ | (apply T.regionD wide; rfl) | refine TL.nil ?_ | refine N.next ?_ | refine N.inBlock ?_ | refine N.exit_same ?_ | refine N.exit_then ?_ | refine N.ret_then ?_ | refine N.ret_block ?_ | (apply N.exit_other; rfl) | refine T.ret ?_ | refine T.skip ?_ | refine T.exit ?_ | refine T.block ?_ | (apply T.cond_true; rfl) | (apply T.cond_false; rfl) | (apply T.test; rfl; (exact isx); intro _; rotate_left; intro _; rotate_right) | (apply TL.skip; rfl; rfl; rfl) | (apply TL.skip_none; rfl; rfl) | (apply GT.skip; rfl; rfl; rfl; decide +kernel) | (apply GS.grow; rfl; rfl; (apply X.callR0 (f := 107) Tryz.call107; rfl; rfl; (exact fun _ hs => c_cmpI _ _ _ _ hs.sat)); intro _ _) | (apply TL.call0 (f := 107) Tryz.call107; rfl; rfl; rfl; (exact fun _ hs => c_cmpI _ _ _ _ hs.sat)) | (apply GT.call0 (f := 107) Tryz.call107; (iterate 5 rfl); (exact fun _ hs => c_cmpI _ _ _ _ hs.sat); decide +kernel) | (apply GS.grow; rfl; rfl; (apply X.callR0 (f := 106) Tryz.call106; rfl; rfl; (exact fun _ hs => c_Or _ [_, _] _ _ (hs.satBlk (List.Mem.head _)) Hp.put_cells (by simp))); intro _ _) | (apply TL.call0 (f := 106) Tryz.call106; rfl; rfl; rfl; (exact fun _ hs => c_Or _ [_, _] _ _ (hs.satBlk (List.Mem.head _)) Hp.put_cells (by simp))) | (apply GT.call0 (f := 106) Tryz.call106; (iterate 5 rfl); (exact fun _ hs => c_Or _ [_, _] _ _ (hs.satBlk (List.Mem.head _)) Hp.put_cells (by simp)); decide +kernel) | (apply TL.val; rfl; rfl; (first | exact vpure | exact vread)) | (apply GT.pure; (iterate 4 rfl); (first | exact vpure); decide +kernel) | (apply GT.read; (iterate 4 rfl); (first | exact vpure | exact vread); decide +kernel) | (apply GT.done; decide +kernel; apply N.ofQ) | (apply GT.adv; rfl) | (apply TL.x; rfl; rfl; (first | exact xgrow | exact xput); intro _ _) | (apply GS.grow; rfl; rfl; (first | exact xgrow); intro _ _) | (apply GS.eff; rfl; decide +kernel; rfl; (first | exact xput); intro _ _) | (apply TL.guard; rfl; rfl; rfl; (exact isx); intro _; rotate_left; intro _; rotate_right) | (apply GT.guard; (iterate 4 rfl); (exact isx); intro _; rotate_left; intro _; rotate_right) | (apply GT.fork1; decide +kernel) | (apply GT.fork2 1; decide +kernel) | (apply GT.fork2 2; decide +kernel) | (apply GT.fork2 3; decide +kernel) | (apply GT.fork2 4; decide +kernel) | (apply GT.fork2 5; decide +kernel) | (apply GT.fork2 6; decide +kernel) | (apply GT.fork2 7; decide +kernel) | (apply GT.fork2 8; decide +kernel) | (apply GT.fork2 9; decide +kernel) | (apply GT.fork2 10; decide +kernel) | (apply GT.fork2 11; decide +kernel) | (apply GT.fork2 12; decide +kernel) | (apply GT.fork2 13; decide +kernel) | (apply GT.fork2 14; decide +kernel)))
  all_goals (apply N.ret_int; rfl; (exact rvx))
  all_goals rfl
theorem c_fits (f : FateC) (m : Msg) (H : Hp) (w : World) (hs : Sat H w) : Calls Tryz.prog 29 #[.agg (enc f).toArray, .agg (enc m).toArray] w (Ret w (.bool (fateOK f m.kind))) := by
  refine T.enter (vs := [.agg (enc f).toArray, .agg (enc m).toArray]) (H := H) Tryz.func29 rfl rfl rfl hs ?_
  repeat (any_goals (first | refine T.seq ?_ | refine T.region ?_ | refine TL.nil ?_ | refine N.next ?_ | refine N.inBlock ?_ | refine N.exit_same ?_ | refine N.exit_then ?_ | refine N.ret_then ?_ | refine N.ret_block ?_ | (apply N.exit_other; rfl) | refine T.ret ?_ | refine T.skip ?_ | refine T.exit ?_ | refine T.block ?_ | (apply T.cond_true; rfl) | (apply T.cond_false; rfl) | (apply T.test; rfl; (exact isx); intro _; rotate_left; intro _; rotate_right) | (apply TL.skip; rfl; rfl; rfl) | (apply TL.skip_none; rfl; rfl) | (apply TL.val; rfl; rfl; (first | exact vpure | exact vread)) | (apply TL.x; rfl; rfl; (first | exact xgrow | exact xput); intro _ _) | (apply TL.guard; rfl; rfl; rfl; (exact isx); intro _; rotate_left; intro _; rotate_right)))
  all_goals (try (first | (apply N.ret_bool; rfl; (exact rvx)) | (apply N.ret_int; rfl; (exact rvx)) | (apply N.ret_val; rfl; (exact rvx))))
  all_goals (rw [Bool.eq_iff_iff]; unfold fateOK; simp only [Bool.and_eq_true, Bool.or_eq_true, Bool.not_eq_true', decide_eq_true_eq, decide_eq_false_iff_not, Bool.false_eq_true, Bool.true_eq_false, true_iff, false_iff, iff_true, iff_false]; omega)
def NetHead (n : Net) : Prop := 0 ≤ n.seq ∧ n.seq ≤ 1000000000 ∧ n.list.len ≤ 200
def NetAt (n : Net) (j : Nat) (h : j < n.list.els.length) : Prop := ((0 ≤ n.list.els[j].at_ ∧ n.list.els[j].at_ ≤ 20000000) ∧ (0 ≤ n.list.els[j].seq ∧ n.list.els[j].seq < n.seq) ∧ msgOK n.list.els[j].m.c = true) ∧ (0 < j → netLe (n.list.els[j - 1]'(by omega)).c n.list.els[j].c = true) ∧ ∀ i (hi : i < j), (n.list.els[i]'(by omega)).seq ≠ n.list.els[j].seq
def NetUp (n : Net) (k : Nat) : Prop := ∀ j (h : j < n.list.els.length), j < k → NetAt n j h
theorem transitOK_iff (s : Int) (t : Transit) : transitOK s t.c = true ↔ ((0 ≤ t.at_ ∧ t.at_ ≤ 20000000) ∧ (0 ≤ t.seq ∧ t.seq < s) ∧ msgOK t.m.c = true) := by
  unfold transitOK
  rw [show t.c.at_ = t.at_ from rfl, show t.c.seq = t.seq from rfl, show t.c.m = t.m.c from rfl]
  simp only [Bool.and_eq_true, decide_eq_true_eq, and_assoc]
theorem netC_iff {n : Net} (hlen : n.list.els.length = n.list.len) : netOK n.c = true ↔ (NetHead n ∧ NetUp n n.list.len) := by
  have hl : n.c.list.length = n.list.els.length := List.length_map _
  have e : ∀ i (h : i < n.list.els.length) (h' : i < n.c.list.length), n.c.list[i] = n.list.els[i].c := fun i h h' => List.getElem_map _
  refine (netOK_iff n.c).trans (and_congr ?_ ⟨fun h j hj hjk => ?_, fun h j hj hjk => ?_⟩)
  · unfold NetHead; rw [hl, hlen]; exact Iff.rfl
  · obtain ⟨h1, h2, h3⟩ := h j (by omega) (by omega)
    refine ⟨(transitOK_iff _ _).1 (by rw [← e j hj (by omega)]; exact h1), fun h0 => ?_, fun i hi => ?_⟩
    · rw [← e j hj (by omega), ← e (j - 1) (by omega) (by omega)]; exact h2 h0
    · have := h3 i hi
      rw [e j hj (by omega), e i (by omega) (by omega)] at this
      exact this
  · obtain ⟨h1, h2, h3⟩ := h j (by omega) (by omega)
    refine ⟨by rw [e j (by omega) hj]; exact (transitOK_iff _ _).2 h1, fun h0 => ?_, fun i hi => ?_⟩
    · rw [e j (by omega) hj, e (j - 1) (by omega) (by omega)]; exact h2 h0
    · rw [e j (by omega) hj, e i (by omega) (by omega)]
      exact h3 i hi
theorem netUp_zero (n : Net) : NetUp n 0 := fun _ _ h => by omega
theorem netUp_up {n : Net} {k : Nat} (hk : k < n.list.els.length) (h : NetUp n k) (h1 : NetAt n k hk) : NetUp n (k + 1) := fun j hj hjk => by
  by_cases e : j = k
  · subst e; exact h1
  · exact h j hj (by omega)
theorem netC_no {n : Net} (hlen : n.list.els.length = n.list.len) (h : ¬ NetHead n) : false = netOK n.c := (Bool.eq_false_iff.2 fun h' => h ((netC_iff hlen).1 h').1).symm
theorem netC_noAt {n : Net} (hlen : n.list.els.length = n.list.len) {k : Nat} (hk : k < n.list.els.length) (h : ¬ NetAt n k hk) : false = netOK n.c := (Bool.eq_false_iff.2 fun h' => h (((netC_iff hlen).1 h').2 k hk (by omega))).symm
theorem netC_yes {n : Net} (hlen : n.list.els.length = n.list.len) (hh : NetHead n) {k : Nat} (h : NetUp n k) (hk : n.list.len ≤ k) : true = netOK n.c := ((netC_iff hlen).2 ⟨hh, fun j hj hjk => h j hj (by omega)⟩).symm
def seqs (n : Net) (k : Nat) : List Int := (n.list.els.take k).map (·.seq)
theorem seqs_mem {n : Net} {k : Nat} {a : Int} : a ∈ seqs n k ↔ ∃ i, ∃ h : i < n.list.els.length, i < k ∧ n.list.els[i].seq = a := by
  unfold seqs
  rw [List.mem_map]
  constructor
  · rintro ⟨t, ht, rfl⟩
    obtain ⟨i, hi, rfl⟩ := List.mem_iff_getElem.1 ht
    rw [List.length_take] at hi
    exact ⟨i, by omega, by omega, by rw [List.getElem_take]⟩
  · rintro ⟨i, hi, hk, rfl⟩
    exact ⟨n.list.els[i], List.mem_iff_getElem.2 ⟨i, by rw [List.length_take]; omega, by rw [List.getElem_take]⟩, rfl⟩
theorem seqs_up {n : Net} {k : Nat} (hk : k < n.list.els.length) : seqs n (k + 1) = seqs n k ++ [n.list.els[k].seq] := by
  unfold seqs
  rw [List.take_succ_eq_append_getElem hk, List.map_append]; rfl
abbrev mapOf (l : List Int) : Obj := mObj (fun a : Int => intV a) (l.map fun x => (x, Value.bool true))
set_option maxHeartbeats 4000000 in
theorem c_netValid (n : Net) (H : Hp) (w : World) (hs : Sat H w) (hR : Rules H) (hg : Enc.good H n) : Calls Tryz.prog 26 #[.agg (enc n).toArray] w (Ret w (.bool (netOK n.c))) := by
  obtain ⟨g1, g2⟩ := hg
  have hlen : n.list.els.length = n.list.len := g2.len
  have hlim := g2.lim
  refine T.enter (vs := [.agg (enc n).toArray]) (H := H) Tryz.func26 rfl rfl rfl hs ?_
  repeat (any_goals (first | refine T.seq ?_ | refine T.region ?_ | (apply T.regionD wide; rfl) | refine TL.nil ?_ | refine N.next ?_ | refine N.inBlock ?_ | refine N.exit_same ?_ | refine N.exit_then ?_ | refine N.ret_then ?_ | refine N.ret_block ?_ | (apply N.exit_other; rfl) | refine T.ret ?_ | refine T.skip ?_ | refine T.exit ?_ | refine T.block ?_ | (apply T.cond_true; rfl) | (apply T.cond_false; rfl) | (apply T.test; rfl; (exact isx); intro _; rotate_left; intro _; rotate_right) | (apply TL.skip; rfl; rfl; rfl) | (apply TL.skip_none; rfl; rfl) | (apply GT.skip; rfl; rfl; rfl; decide +kernel) | (apply TL.x; rfl; rfl; (apply X.makeMap (fun a : Int => intV a); rfl); intro _ _) | (apply GS.grow; rfl; rfl; (apply X.makeMap (fun a : Int => intV a); rfl); intro _ _) | (apply TL.val; rfl; rfl; (first | exact vpure | exact vread)) | (apply GT.pure; (iterate 4 rfl); (first | exact vpure); decide +kernel) | (apply GT.read; (iterate 4 rfl); (first | exact vpure | exact vread); decide +kernel) | (apply GT.done; decide +kernel; apply N.ofQ) | (apply GT.adv; rfl) | (apply TL.x; rfl; rfl; (first | exact xgrow | exact xput); intro _ _) | (apply GS.grow; rfl; rfl; (first | exact xgrow); intro _ _) | (apply GS.eff; rfl; decide +kernel; rfl; (first | exact xput); intro _ _) | (apply TL.guard; rfl; rfl; rfl; (exact isx); intro _; rotate_left; intro _; rotate_right) | (apply GT.guard; (iterate 4 rfl); (exact isx); intro _; rotate_left; intro _; rotate_right) | (apply GT.fork1; decide +kernel) | (apply GT.fork2 1; decide +kernel) | (apply GT.fork2 2; decide +kernel) | (apply GT.fork2 3; decide +kernel) | (apply GT.fork2 4; decide +kernel) | (apply GT.fork2 5; decide +kernel) | (apply GT.fork2 6; decide +kernel) | (apply GT.fork2 7; decide +kernel) | (apply GT.fork2 8; decide +kernel) | (apply GT.fork2 9; decide +kernel) | (apply GT.fork2 10; decide +kernel) | (apply GT.fork2 11; decide +kernel) | (apply GT.fork2 12; decide +kernel) | (apply GT.fork2 13; decide +kernel) | (apply GT.fork2 14; decide +kernel)))
  all_goals (try (first | (apply N.ret_bool; rfl; (exact rvx)) | (apply N.ret_int; rfl; (exact rvx)) | (apply N.ret_val; rfl; (exact rvx))))
  all_goals first
    | exact netC_no hlen (by rintro ⟨b1, b2, b3⟩; omega)
    | skip
  rename_i bn _ hh1 hh2 hh3 bm _
  have hh : NetHead n := ⟨by omega, by omega, by omega⟩
  refine T.loop (G := Nat) (fun k => [(1, .pointer (some ⟨bn, 0, none⟩)), (3, .map (some bm)), (22, n.list.v), (23, intV n.list.len), (24, intV k)]) (fun _ => H) (fun k => [.any bm (mapOf (seqs n k)), .blk bn 39 (enc n)]) (fun k => k ≤ n.list.len ∧ NetUp n k) (fun k => n.list.len - k) 0 ⟨Nat.zero_le _, netUp_zero n⟩ (by (repeat (first | exact True.intro | refine ⟨rfl, ?_⟩ | refine Sub.int rfl (by omega) ?_))) rfl (by (first | exact List.Sublist.refl _ | exact List.nil_sublist _ | exact List.Sublist.cons _ (List.Sublist.refl _) | exact List.Sublist.cons _ (List.Sublist.cons _ (List.Sublist.refl _)))) ?_
  rintro k ⟨hk, hrel⟩
  repeat (any_goals (first | refine T.seq ?_ | refine T.region ?_ | (apply T.regionD wide; rfl) | refine TL.nil ?_ | refine N.next ?_ | refine N.inBlock ?_ | refine N.exit_same ?_ | refine N.exit_then ?_ | refine N.ret_then ?_ | refine N.ret_block ?_ | (apply N.exit_other; rfl) | refine T.ret ?_ | refine T.skip ?_ | refine T.exit ?_ | refine T.block ?_ | (apply T.cond_true; rfl) | (apply T.cond_false; rfl) | (apply T.test; rfl; (exact isx); intro _; rotate_left; intro _; rotate_right) | (apply TL.skip; rfl; rfl; rfl) | (apply TL.skip_none; rfl; rfl) | (apply GT.skip; rfl; rfl; rfl; decide +kernel) | (apply GS.grow; rfl; rfl; (apply X.callR0 (f := 28) Tryz.call28; rfl; rfl; (exact fun _ hs => c_isTime _ _ _ hs.sat)); intro _ _) | (apply TL.call0 (f := 28) Tryz.call28; rfl; rfl; rfl; (exact fun _ hs => c_isTime _ _ _ hs.sat)) | (apply GT.call0 (f := 28) Tryz.call28; (iterate 5 rfl); (exact fun _ hs => c_isTime _ _ _ hs.sat); decide +kernel) | (apply GS.grow; rfl; rfl; (apply X.callR0 (f := 27) Tryz.call27; rfl; rfl; (exact fun _ hs => c_packetValid _ _ _ hs.sat hR (g2.el (by omega)).2.2)); intro _ _) | (apply TL.call0 (f := 27) Tryz.call27; rfl; rfl; rfl; (exact fun _ hs => c_packetValid _ _ _ hs.sat hR (g2.el (by omega)).2.2)) | (apply GT.call0 (f := 27) Tryz.call27; (iterate 5 rfl); (exact fun _ hs => c_packetValid _ _ _ hs.sat hR (g2.el (by omega)).2.2); decide +kernel) | (apply GS.grow; rfl; rfl; (apply X.callR0 (f := 57) Tryz.call57; rfl; rfl; (exact fun _ hs => c_order _ _ _ _ hs.sat)); intro _ _) | (apply TL.call0 (f := 57) Tryz.call57; rfl; rfl; rfl; (exact fun _ hs => c_order _ _ _ _ hs.sat)) | (apply GT.call0 (f := 57) Tryz.call57; (iterate 5 rfl); (exact fun _ hs => c_order _ _ _ _ hs.sat); decide +kernel) | (apply TL.val; rfl; rfl; (apply V.mlookup (mk := fun a : Int => intV a) (n.list.els[k]'(by omega)).seq; rfl; rfl; rfl; exact keyI Tryz.underlying3; rfl; rfl; (exact lmem); exact aGet_set _ _)) | (apply GT.pure; (iterate 4 rfl); (apply V.mlookup (mk := fun a : Int => intV a) (n.list.els[k]'(by omega)).seq; rfl; rfl; rfl; exact keyI Tryz.underlying3; rfl; rfl; (exact lmem); exact aGet_set _ _); decide +kernel) | (apply GT.read; (iterate 4 rfl); (apply V.mlookup (mk := fun a : Int => intV a) (n.list.els[k]'(by omega)).seq; rfl; rfl; rfl; exact keyI Tryz.underlying3; rfl; rfl; (exact lmem); exact aGet_set _ _); decide +kernel) | (apply TL.x; rfl; rfl; (apply X.mput (mk := fun a : Int => intV a) 1 (n.list.els[k]'(by omega)).seq; rfl; rfl; exact keyI Tryz.underlying3; (iterate 4 rfl); simp only [List.set_cons_zero, List.set_cons_succ]; rw [aPut_set (by assumption), ← seqs_up]); intro _ _) | (apply GS.eff; rfl; decide +kernel; rfl; (apply X.mput (mk := fun a : Int => intV a) 1 (n.list.els[k]'(by omega)).seq; rfl; rfl; exact keyI Tryz.underlying3; (iterate 4 rfl); simp only [List.set_cons_zero, List.set_cons_succ]; rw [aPut_set (by assumption), ← seqs_up]); intro _ _) | (apply TL.val; rfl; rfl; (first | exact vpure | exact vread)) | (apply GT.pure; (iterate 4 rfl); (first | exact vpure); decide +kernel) | (apply GT.read; (iterate 4 rfl); (first | exact vpure | exact vread); decide +kernel) | (apply GT.done; decide +kernel; apply N.ofQ) | (apply GT.adv; rfl) | (apply TL.x; rfl; rfl; (first | exact xgrow | exact xput); intro _ _) | (apply GS.grow; rfl; rfl; (first | exact xgrow); intro _ _) | (apply GS.eff; rfl; decide +kernel; rfl; (first | exact xput); intro _ _) | (apply TL.guard; rfl; rfl; rfl; (exact isx); intro _; rotate_left; intro _; rotate_right) | (apply GT.guard; (iterate 4 rfl); (exact isx); intro _; rotate_left; intro _; rotate_right) | (apply GT.fork1; decide +kernel) | (apply GT.fork2 1; decide +kernel) | (apply GT.fork2 2; decide +kernel) | (apply GT.fork2 3; decide +kernel) | (apply GT.fork2 4; decide +kernel) | (apply GT.fork2 5; decide +kernel) | (apply GT.fork2 6; decide +kernel) | (apply GT.fork2 7; decide +kernel) | (apply GT.fork2 8; decide +kernel) | (apply GT.fork2 9; decide +kernel) | (apply GT.fork2 10; decide +kernel) | (apply GT.fork2 11; decide +kernel) | (apply GT.fork2 12; decide +kernel) | (apply GT.fork2 13; decide +kernel) | (apply GT.fork2 14; decide +kernel)))
  all_goals (try (first | (apply N.ret_bool; rfl; (exact rvx)) | (apply N.ret_int; rfl; (exact rvx)) | (apply N.ret_val; rfl; (exact rvx))))
  all_goals (try (refine N.round (k + 1) ?_ ?_ ?_ ?_ ?_; rotate_left 2; (repeat (first | exact True.intro | refine ⟨rfl, ?_⟩ | refine Sub.int rfl (by omega) ?_)); rfl; (first | exact List.Sublist.refl _ | exact List.nil_sublist _ | exact List.Sublist.cons _ (List.Sublist.refl _) | exact List.Sublist.cons _ (List.Sublist.cons _ (List.Sublist.refl _)))))
  all_goals (try simp only [show ((k : Int) - 1).toNat = k - 1 by omega] at *)
  all_goals first
    | omega
    | exact netC_yes hlen hh hrel (by omega)
    | exact ⟨by omega, netUp_up (by omega) hrel ⟨⟨by assumption, by omega, by assumption⟩, fun h0 => by
        first
          | omega
          | (cases hc : netLe (n.list.els[k - 1]'(by omega)).c (n.list.els[k]'(by omega)).c with
             | true => rfl
             | false => exact absurd ((orderI_pos _ _).2 hc) (by omega)), fun i hi e => (by assumption : ¬ (n.list.els[k]'(by omega)).seq ∈ seqs n k) (seqs_mem.2 ⟨i, by omega, hi, e⟩)⟩⟩
    | exact netC_noAt hlen (k := k) (by omega) (by
        rintro ⟨⟨b1, b2, b3⟩, b4, b5⟩
        first
          | omega
          | exact absurd (b3.symm.trans (by assumption : msgOK (n.list.els[k]'(by omega)).m.c = false)) (by decide)
          | (obtain ⟨i, hi, hik, e⟩ := seqs_mem.1 (by assumption : (n.list.els[k]'(by omega)).seq ∈ seqs n k)
             exact b5 i hik e)
          | exact absurd ((b4 (by omega)).symm.trans ((orderI_pos _ _).1 (by assumption))) (by decide))
    | trace_state
end Go.Proofs.YtpnoabbdcakjkaaGreatDoor
