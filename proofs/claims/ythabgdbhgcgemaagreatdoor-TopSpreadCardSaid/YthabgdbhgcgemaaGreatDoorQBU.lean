import Derived.Test.YthabgdbhgcgemaaGreatDoorQBS
import Derived.Test.YthabgdbhgcgemaaGreatDoorQWM
namespace Go.Proofs.YthabgdbhgcgemaaGreatDoor
set_option linter.unusedVariables false
set_option linter.unusedSimpArgs false
open Go Go.RowKit
open Enc (enc)
set_option maxRecDepth 20000
structure VersOK (l : List VersionV) (fin : Int) : Prop where
  n1 : 1 ≤ l.length
  n8 : l.length ≤ 8
  fin1 : 1 ≤ fin
  fin2 : fin ≤ 10000000
  at0 : ∀ v ∈ l, 0 ≤ v.at_ ∧ v.at_ < fin
  zone : ∀ v ∈ l, ZonedR v.zone.c
  few : ∀ v ∈ l, v.zone.sets.len ≤ 100
  apex : ∀ v ∈ l, ∀ y ∈ l, v.zone.apex = y.zone.apex
  step : ∀ i (h : i + 1 < l.length), l[i].at_ < l[i + 1].at_ ∧ beforeS (serialC l[i].zone.c) (serialC l[i + 1].zone.c) = true
  apart : (l.map fun v => serialC v.zone.c).Nodup
theorem VersOK.order {l : List VersionV} {fin : Int} (h : VersOK l fin) : (atsOf l).Pairwise (· < ·) := by
  unfold atsOf
  rw [List.pairwise_map]
  exact pairwise_of_steps (r := fun a b : VersionV => a.at_ < b.at_) (fun h1 h2 => Int.lt_trans h1 h2) fun i hi => (h.step i hi).1
section
variable {H : Hp} {w : World}
set_option maxHeartbeats 8000000 in
theorem c_ccloneZone (z : ZoneV) (hb : z.sets.len ≤ 1000) (hsm : ∀ x ∈ z.sets.els, x.set.data.len ≤ 1000 ∧ x.sigs.len ≤ 1000) (hs : Sat H w) (hg : Enc.good H z) :
    Calls Tryz.prog 22 #[.agg (enc z).toArray] w (RetF w H (fun p : Hp × ZoneV => p.2.c = z.c ∧ Enc.good p.1 p.2) (fun p => .agg (enc p.2).toArray) (fun p => p.1)) := by
  have hgs := hg.2
  have hlen := hgs.len
  refine T.enter (vs := [.agg (enc z).toArray]) (H := H) Tryz.func22 rfl rfl rfl hs ?_
  repeat (any_goals (first | (apply T.seqU 2; rfl) | refine T.region ?_ | refine TL.nil ?_ | refine N.next ?_ | (apply TL.x; rfl; rfl; (apply X.box (d := 1) (cs := enc z); rfl; rfl; rfl); intro b1 _) | (apply TL.x; rfl; rfl; (apply X.alloc (d := 2); rfl; rfl; rfl); intro b2 _)))
  refine T.cut (G := Option Nat × Nat × Nat) (fun g => [(2, .pointer (some ⟨b2, 0, none⟩)), (3, .pointer (some ⟨g.2.2, 0, none⟩))]) (fun _ => H) (fun g => [.blk g.2.2 32 [strV z.apex, .slice (g.1.map fun g => ⟨g, 0, none⟩) z.sets.len g.2.1], .row (.slice (g.1.map fun g => ⟨g, 0, none⟩) z.sets.len g.2.1) 86 5 z.sets.len (encs z.sets.els), .blk b2 32 [strV [], .slice none 0 0], .blk b1 32 (enc z)]) (fun g => g.1 = none → z.sets.len = 0 ∧ g.2.1 = 0) ?_ ?_
  · repeat (any_goals (first | (apply T.regionD wide; rfl) | (apply GS.grow; rfl; rfl; (apply X.callO0 (f := 41) Tryz.call41; rfl; rfl; exact fun _ hs => c_CloneSignedO z.sets _ _ hs.sat hgs hb); rintro ⟨o, c⟩ ⟨hp, _⟩; dsimp only at hp ⊢) | (apply GS.grow; rfl; rfl; (apply X.alloc (d := 3); rfl; rfl; rfl); intro b3 _) | (apply GT.pure; (iterate 4 rfl); (apply V.build; (iterate 6 rfl)); decide +kernel) | (apply GS.eff; rfl; decide +kernel; rfl; (apply X.storeTo 0 [strV z.apex, .slice (o.map fun g => ⟨g, 0, none⟩) z.sets.len c]; (iterate 10 rfl)); intro _ _) | (apply GS.eff; rfl; decide +kernel; rfl; (apply X.storeTo 1 [strV z.apex, .slice (o.map fun g => ⟨g, 0, none⟩) z.sets.len c]; (iterate 10 rfl)); intro _ _) | (apply GT.pure; (iterate 4 rfl); (first | exact vpure); decide +kernel) | (apply GT.read; (iterate 4 rfl); (first | exact vpure | exact vread); decide +kernel) | (apply GT.done; decide +kernel; apply N.ofQ) | (apply GT.adv; rfl) | (apply GT.fork1; decide +kernel) | (apply GT.fork2 6; decide +kernel)))
    all_goals first
      | exact N.cut (o, c, b3) hp (by (repeat (first | exact True.intro | refine ⟨rfl, ?_⟩ | refine Sub.int rfl (by omega) ?_))) rfl (List.Sublist.refl _)
      | exact N.perm (List.Perm.swap _ _ _) (N.cut (o, c, b3) hp (by (repeat (first | exact True.intro | refine ⟨rfl, ?_⟩ | refine Sub.int rfl (by omega) ?_))) rfl (List.Sublist.refl _))
      | trace_state
  rintro ⟨o, c, b3⟩ hp0
  simp only at hp0 ⊢
  repeat (any_goals (first | refine T.seq ?_ | refine T.region ?_ | refine TL.nil ?_ | refine N.next ?_ | refine T.block ?_ | (apply TL.val; rfl; rfl; (first | exact vpure | exact vread))))
  refine T.loop (G := Nat × Hp × List Signed) (fun g => [(2, .pointer (some ⟨b2, 0, none⟩)), (3, .pointer (some ⟨b3, 0, none⟩)), (13, .slice (o.map fun g => ⟨g, 0, none⟩) z.sets.len c), (14, intV z.sets.len), (15, intV g.1)]) (fun g => g.2.1)
    (fun g => [.blk b3 32 [strV z.apex, .slice (o.map fun g => ⟨g, 0, none⟩) z.sets.len c], .row (.slice (o.map fun g => ⟨g, 0, none⟩) z.sets.len c) 86 5 z.sets.len (encs g.2.2), .blk b2 32 [strV [], .slice none 0 0]])
    (fun g => g.1 ≤ z.sets.len ∧ H.le g.2.1 ∧ CopyTo g.2.1 z.sets.els g.2.2 g.1) (fun g => z.sets.len - g.1) (0, H, z.sets.els) ⟨Nat.zero_le _, .refl _, rfl, fun j s' hj => ⟨s', hj, rfl, hgs.els _ (List.mem_of_getElem? hj), fun _ => rfl⟩⟩ (by (repeat (first | exact True.intro | refine ⟨rfl, ?_⟩ | refine Sub.int rfl (by omega) ?_))) rfl (by (repeat (first | exact List.Sublist.refl _ | exact List.nil_sublist _ | apply List.Sublist.cons_cons | apply List.Sublist.cons))) ?_
  rintro ⟨k, H1, els1⟩ ⟨hk, hle, hrel⟩
  simp only at hk hle hrel ⊢
  have hl1 : els1.length = z.sets.len := by rw [hrel.1, hlen]
  by_cases hlt : k < z.sets.len
  · obtain ⟨gb, rfl⟩ : ∃ gb, o = some gb := by
      cases o with
      | none => have := (hp0 rfl).1; omega
      | some gb => exact ⟨gb, rfl⟩
    obtain ⟨s0, hs0⟩ : ∃ s0, z.sets.els[k]? = some s0 := ⟨_, List.getElem?_eq_getElem (by omega)⟩
    have hs1 : els1[k]? = some s0 := by
      obtain ⟨s', e1, _, _, e4⟩ := hrel.2 k s0 hs0
      rw [e1, e4 (Nat.le_refl _)]
    have hs2 : Enc.good H1 s0 := Enc.mono hle (hgs.els _ (List.mem_of_getElem? hs0))
    obtain ⟨hb3, hb4⟩ := hsm s0 (List.mem_of_getElem? hs0)
    have hrow : ((encs els1).drop (0 + k * 5)).take 5 = enc s0 := encs_rowat hs1 (by show _ = k * 5; omega)
    simp only [Option.map_some]
    repeat (any_goals (first | (apply T.seqU 6; rfl) | refine T.region ?_ | refine TL.nil ?_ | refine N.next ?_ | refine N.exit_same ?_ | refine N.exit_then ?_ | refine T.ret ?_ | refine T.skip ?_ | refine T.exit ?_ | refine T.block ?_ | (apply T.test; rfl; (exact isx); intro _; rotate_left; intro _; rotate_right) | (apply TL.val; rfl; rfl; (apply V.elem (j := k); (iterate 6 rfl); omega; rfl)) | (apply TL.val; rfl; rfl; (apply V.load_own_row; rfl; rfl; rfl; exact List.Mem.tail _ (List.Mem.head _); exact hrow; rfl)) | (apply TL.x; rfl; rfl; (apply X.alloc (d := 5); rfl; rfl; rfl); intro b5 _) | (apply TL.x; rfl; rfl; (apply X.storeTo 0 (enc s0); (iterate 10 rfl)); intro _ _) | (apply TL.val; rfl; rfl; (first | exact vpure | exact vread)) | (apply TL.x; rfl; rfl; (first | exact xgrow | exact xput); intro _ _)))
    all_goals (try (exfalso; omega))
    simp only [List.set_cons_zero]
    repeat (any_goals (first | (apply T.seqU 7; rfl) | (apply T.regionD wide; rfl) | refine N.next ?_ | (apply GS.grow; rfl; rfl; (apply X.callFE (f := 42) [s0.set.data.v] Tryz.call42; rfl; rfl; rfl; exact (fun _ hs => c_CloneDatum s0.set.data _ _ hs.sat hs2.1.2.2.2 hb3)); rintro ⟨H2, dn⟩ ⟨⟨hd1, hd2⟩, hle2⟩; dsimp only at hd1 hd2 hle2 ⊢) | (apply GT.pure; (iterate 4 rfl); (apply V.elem (j := k); (iterate 6 rfl); omega; rfl); decide +kernel) | (apply GS.eff; rfl; decide +kernel; rfl; (exact X.storeRowE 2 (vs := [dn.v]) rfl rfl rfl rfl rfl rfl rfl (by show 0 + k * 5 + 0 + 3 + 1 ≤ z.sets.len * 5; omega) (encs_put (j := 3) (y := ⟨⟨s0.set.name, s0.set.typ, s0.set.life, dn⟩, s0.sigs⟩) hs1 (by show 3 + 1 ≤ 5; omega) rfl (by show 0 + k * 5 + 0 + 3 = k * 5 + 3; omega))); intro _ _) | (apply GT.pure; (iterate 4 rfl); (first | exact vpure); decide +kernel) | (apply GT.read; (iterate 4 rfl); (first | exact vpure | exact vread); decide +kernel) | (apply GT.done; decide +kernel; apply N.ofQ) | (apply GT.adv; rfl) | (apply GT.fork1; decide +kernel)))
    all_goals (try (exfalso; omega))
    simp only [List.set_cons_zero, List.set_cons_succ]
    have hs3 : (els1.set k ⟨⟨s0.set.name, s0.set.typ, s0.set.life, dn⟩, s0.sigs⟩)[k]? = some (⟨⟨s0.set.name, s0.set.typ, s0.set.life, dn⟩, s0.sigs⟩ : Signed) := List.getElem?_set_self (by omega)
    have hs2' := Enc.mono hle2 hs2
    repeat (any_goals (first | refine T.region ?_ | refine TL.nil ?_ | refine N.next ?_ | refine N.inBlock ?_ | (apply GS.grow; rfl; rfl; (apply X.callFE (f := 43) [s0.sigs.v] Tryz.call43; rfl; rfl; rfl; exact (fun _ hs => c_CloneSig s0.sigs _ _ hs.sat hs2'.2 hb4)); rintro ⟨H3, gn⟩ ⟨⟨hd3, hd4⟩, hle3⟩; dsimp only at hd3 hd4 hle3 ⊢) | (apply GT.pure; (iterate 4 rfl); (apply V.elem (j := k); (iterate 6 rfl); omega; rfl); decide +kernel) | (apply GS.eff; rfl; decide +kernel; rfl; (exact X.storeRowE 2 (vs := [gn.v]) rfl rfl rfl rfl rfl rfl rfl (by show 0 + k * 5 + 4 + 1 ≤ z.sets.len * 5; omega) (encs_put (j := 4) (y := ⟨⟨s0.set.name, s0.set.typ, s0.set.life, dn⟩, gn⟩) hs3 (by show 4 + 1 ≤ 5; omega) rfl (by show 0 + k * 5 + 4 = k * 5 + 4; omega))); intro _ _) | (apply TL.val; rfl; rfl; (first | exact vpure | exact vread)) | (apply GT.pure; (iterate 4 rfl); (first | exact vpure); decide +kernel) | (apply GT.done; decide +kernel; apply N.ofQ) | (apply GT.adv; rfl) | (apply GT.fork1; decide +kernel)))
    all_goals (try (exfalso; omega))
    refine N.round (k + 1, H3, els1.set k ⟨⟨s0.set.name, s0.set.typ, s0.set.life, dn⟩, gn⟩) ⟨by show k + 1 ≤ _; omega, (hle.trans hle2).trans hle3, copyTo_up hrel (hle2.trans hle3) hs0 ?_ ⟨⟨hs2.1.1, hs2.1.2.1, hs2.1.2.2.1, hd2.mono hle3⟩, hd4⟩⟩ (by show z.sets.len - (k + 1) < z.sets.len - k; omega) (by (repeat (first | exact True.intro | refine ⟨rfl, ?_⟩ | refine Sub.int rfl (by omega) ?_))) rfl ?_
    · unfold Signed.c RSet.c
      simp only [hd1, hd3]
    · simp only [List.set_cons_zero, List.set_cons_succ, List.set_set, Option.map_some]
      exact List.sublist_cons_self _ _
  · refine T.frzRow 1 (els := els1) rfl rfl hl1 (copyTo_good hrel) fun H2 sl e1 e2 e3 hle2 => ?_
    rw [← e1]
    simp only [List.eraseIdx_cons_zero, List.eraseIdx_cons_succ]
    repeat (any_goals (first | refine T.seq ?_ | refine T.region ?_ | (apply T.regionD wide; rfl) | refine TL.nil ?_ | refine N.next ?_ | refine N.exit_same ?_ | refine N.exit_then ?_ | refine T.ret ?_ | refine T.skip ?_ | refine T.exit ?_ | refine T.block ?_ | (apply T.test; rfl; (exact isx); intro _; rotate_left; intro _; rotate_right) | (apply TL.x; rfl; rfl; (apply X.storeTo 1 (enc (⟨z.apex, sl⟩ : ZoneV)); (iterate 10 rfl)); intro _ _) | (apply TL.val; rfl; rfl; (first | exact vpure | exact vread)) | (apply GT.pure; (iterate 4 rfl); (first | exact vpure); decide +kernel) | (apply GT.read; (iterate 4 rfl); (first | exact vpure | exact vread); decide +kernel) | (apply TL.x; rfl; rfl; (first | exact xgrow | exact xput); intro _ _) | (apply GT.fork1; decide +kernel)))
    all_goals (try contradiction)
    all_goals (try (exfalso; omega))
    refine N.ret1 rfl (by (exact rvx)) fun w1 hst => ⟨(H2, ⟨z.apex, sl⟩), ⟨?_, hg.1, e3⟩, rfl, ⟨hst.fresh.below, hst.fresh.sat, hst.fresh.le, hst.fresh.new⟩⟩
    show (⟨z.apex, sl.els.map Signed.c⟩ : ZoneC) = _
    rw [e2, copyTo_c hrel]; rfl
def pollBad (fin : Int) (p : PollV) : Bool := !decide (0 ≤ p.host ∧ p.host < 64) || decide (p.at_ < 0) || decide (fin ≤ p.at_)
theorem c_polls1 (p : PollV) (fin : Int) (b : Nat) (hs : Sat H w) (hb : H.cells b 0 [intV fin]) : Calls Tryz.prog 37 #[.agg (enc p).toArray, .pointer (some ⟨b, 0, none⟩)] w (Ret w (.bool (pollBad fin p))) := by
  refine T.enter (vs := [.agg (enc p).toArray, .pointer (some ⟨b, 0, none⟩)]) (H := H) Tryz.func37 rfl rfl rfl hs ?_
  repeat (any_goals (first | refine T.seq ?_ | refine T.region ?_ | refine TL.nil ?_ | refine N.next ?_ | refine T.ret ?_ | (apply TL.skip; rfl; rfl; rfl) | (apply TL.x; rfl; rfl; (apply X.box (d := 2) (cs := enc p); rfl; rfl; rfl); intro b2 _) | (apply TL.val; rfl; rfl; (apply V.load_H; rfl; rfl; rfl; exact hb 0 _ rfl)) | (apply TL.callE (f := 19) [intV p.host] Tryz.call19; (iterate 4 rfl); (exact fun _ hs => c_isHost p.host hs.sat)) | (apply TL.val; rfl; rfl; (first | exact vpure | exact vread)) | (apply TL.guard; rfl; rfl; rfl; (exact isx); intro _; rotate_left; intro _; rotate_right)))
  all_goals (try (first | (apply N.ret_bool; rfl; (exact rvx)) | (apply N.ret_int; rfl; (exact rvx)) | (apply N.ret_val; rfl; (exact rvx))))
  all_goals (unfold pollBad; simp [*]; try omega)
theorem c_indexPoll (s : Slc PollV) (fin : Int) (b : Nat) (hs : Sat H w) (hg : s.Good H) (hb : H.cells b 0 [intV fin]) : Calls Tryz.prog 86 #[s.v, .func (.func 37) #[] #[.pointer (some ⟨b, 0, none⟩)]] w (Ret w (intV (idxI (pollBad fin) s.els))) := by
  have hlen := hg.len
  have hlim := hg.lim
  refine T.enter (vs := [s.v, .func (.func 37) #[] #[.pointer (some ⟨b, 0, none⟩)]]) (H := H) Tryz.func86 rfl rfl rfl hs ?_
  repeat (any_goals (first | refine T.seq ?_ | refine T.region ?_ | refine TL.nil ?_ | refine N.next ?_ | refine T.block ?_ | (apply TL.val; rfl; rfl; (first | exact vpure | exact vread))))
  refine T.loop (G := Nat) (fun k => [(0, s.v), (1, .func (.func 37) #[] #[.pointer (some ⟨b, 0, none⟩)]), (7, intV s.len), (8, intV k)]) (fun _ => H) (fun _ => []) (fun k => k ≤ s.len ∧ ∀ j (hj : j < s.els.length), j < k → pollBad fin s.els[j] = false) (fun k => s.len - k) 0 ⟨Nat.zero_le _, fun j _ h => by omega⟩ (by (repeat (first | exact True.intro | refine ⟨rfl, ?_⟩ | refine Sub.int rfl (by omega) ?_))) rfl (by (first | exact List.Sublist.refl _ | exact List.nil_sublist _ | exact List.Sublist.cons _ (List.Sublist.refl _) | exact List.Sublist.cons _ (List.Sublist.cons _ (List.Sublist.refl _)))) ?_
  rintro k ⟨hk, hrel⟩
  by_cases hlt : k < s.len
  · have hkl : k < s.els.length := by omega
    repeat (any_goals (first | refine T.seq ?_ | refine T.region ?_ | refine TL.nil ?_ | refine N.next ?_ | refine N.inBlock ?_ | refine N.exit_same ?_ | refine N.exit_then ?_ | refine N.ret_then ?_ | refine N.ret_block ?_ | refine T.ret ?_ | refine T.skip ?_ | refine T.exit ?_ | refine T.block ?_ | (apply T.test; rfl; (exact isx); intro _; rotate_left; intro _; rotate_right) | (apply TL.call; (iterate 4 rfl); exact Tryz.call37; exact fun _ hs => c_polls1 _ fin b hs.sat hb) | (apply TL.val; rfl; rfl; (first | exact vpure | exact vread))))
    all_goals (try (exfalso; omega))
    · refine N.ret_int rfl (by (exact rvx)) ?_
      exact (idxI_at hkl (by assumption) (fun j hj => hrel j (by omega) hj)).symm
    · (refine N.round (k + 1) ?_ ?_ ?_ ?_ ?_; rotate_left 2; (repeat (first | exact True.intro | refine ⟨rfl, ?_⟩ | refine Sub.int rfl (by omega) ?_)); rfl; (first | exact List.Sublist.refl _ | exact List.nil_sublist _ | exact List.Sublist.cons _ (List.Sublist.refl _) | exact List.Sublist.cons _ (List.Sublist.cons _ (List.Sublist.refl _))))
      · refine ⟨by omega, fun j hj hjk => ?_⟩
        by_cases e : j = k
        · subst e; assumption
        · exact hrel j hj (by omega)
      · omega
  · repeat (any_goals (first | refine T.seq ?_ | refine T.region ?_ | refine TL.nil ?_ | refine N.next ?_ | refine N.exit_same ?_ | refine N.exit_then ?_ | refine T.ret ?_ | refine T.skip ?_ | refine T.exit ?_ | refine T.block ?_ | (apply T.test; rfl; (exact isx); intro _; rotate_left; intro _; rotate_right) | (apply TL.val; rfl; rfl; (first | exact vpure | exact vread))))
    all_goals (try (exfalso; omega))
    refine N.ret_int rfl (by (exact rvx)) ?_
    exact (idxI_none fun j hj => hrel j hj (by omega)).symm
def pollsOK (l : List PollV) (fin : Int) : Prop := ∀ p ∈ l, (0 ≤ p.host ∧ p.host < 64) ∧ 0 ≤ p.at_ ∧ p.at_ < fin
theorem pollsOK_iff {l : List PollV} {fin : Int} : l.any (pollBad fin) = false ↔ pollsOK l fin := by
  unfold pollsOK
  rw [List.any_eq_false]
  refine forall_congr' fun p => forall_congr' fun _ => ?_
  unfold pollBad
  simp only [Bool.or_eq_true, Bool.not_eq_true', decide_eq_false_iff_not, decide_eq_true_eq]
  omega
theorem c_rightPolls (s : Slc PollV) (fin : Int) (hb : s.len ≤ 4000) (hs : Sat H w) (hg : s.Good H) : Calls Tryz.prog 20 #[s.v, intV fin] w (Ret w (.bool (!s.els.any (pollBad fin)))) := by
  have hC : ∀ (b : Nat) {H : Hp} {w : World}, Sat H w → s.Good H → H.cells b 0 [intV fin] → Calls Tryz.prog 36 #[s.v, .func (.func 37) #[] #[.pointer (some ⟨b, 0, none⟩)]] w (Ret w (.bool (s.els.any (pollBad fin)))) := fun b {H w} hs hg hb => by
    refine T.enter (vs := [s.v, .func (.func 37) #[] #[.pointer (some ⟨b, 0, none⟩)]]) (H := H) Tryz.func36 rfl rfl rfl hs ?_
    repeat (any_goals (first | refine T.seq ?_ | refine T.region ?_ | refine TL.nil ?_ | refine N.next ?_ | refine T.ret ?_ | (apply TL.callE (f := 86) [s.v, .func (.func 37) #[] #[.pointer (some ⟨b, 0, none⟩)]] Tryz.call86; (iterate 4 rfl); (exact fun _ hs => c_indexPoll s fin b hs.sat hg hb)) | (apply TL.val; rfl; rfl; (first | exact vpure | exact vread))))
    all_goals (try (first | (apply N.ret_bool; rfl; (exact rvx)) | (apply N.ret_int; rfl; (exact rvx)) | (apply N.ret_val; rfl; (exact rvx))))
    exact idxI_ge _ _
  have hlim := hg.lim
  refine T.enter (vs := [s.v, intV fin]) (H := H) Tryz.func20 rfl rfl rfl hs ?_
  repeat (any_goals (first | refine T.seq ?_ | refine T.region ?_ | refine TL.nil ?_ | refine N.next ?_ | refine T.ret ?_ | (apply TL.skip; rfl; rfl; rfl) | (apply TL.x; rfl; rfl; (apply X.box (d := 3) (cs := [intV fin]); rfl; rfl; rfl); intro b3 _; apply TL.frzZ 0; rfl; intro H1 z3 hle1) | (apply TL.val; rfl; rfl; ((apply V.makeFunc (vs := []) (us := [.pointer (some ⟨b3, 0, none⟩)]) <;> rfl))) | (apply TL.callE (f := 36) [s.v, .func (.func 37) #[] #[.pointer (some ⟨b3, 0, none⟩)]] Tryz.call36; (iterate 4 rfl); (exact fun _ hs => hC b3 hs.sat (hg.mono hle1) z3)) | (apply TL.val; rfl; rfl; (first | exact vpure | exact vread)) | (apply TL.guard; rfl; rfl; rfl; (exact isx); intro _; rotate_left; intro _; rotate_right)))
  all_goals (try contradiction)
  all_goals (try (exfalso; omega))
  all_goals exact N.ret_bool rfl (by (exact rvx)) rfl
end
end Go.Proofs.YthabgdbhgcgemaaGreatDoor
