/- Walks: Send. -/
import Derived.Test.YtpnoabbdcakjkaaGreatDoorQWN
import Derived.Test.YtpnoabbdcakjkaaGreatDoorQWP
import Derived.Test.YtpnoabbdcakjkaaGreatDoorQWJ
import Derived.Test.YtpnoabbdcakjkaaGreatDoorQSpecF
namespace Go.Proofs.YtpnoabbdcakjkaaGreatDoor
set_option linter.unusedVariables false
set_option linter.unusedSimpArgs false
open Go Go.RowKit
open Enc (enc)
set_option maxRecDepth 20000

theorem orderI_lt (a b : Transit) : orderI a b < 0 ↔ ltC a.c b.c := by
  unfold orderI ltC
  rw [show a.c.at_ = a.at_ from rfl, show b.c.at_ = b.at_ from rfl, show a.c.seq = a.seq from rfl, show b.c.seq = b.seq from rfl]
  simp only [orL, cmpI]
  by_cases h1 : a.at_ < b.at_
  · simp [h1]
  · by_cases h2 : b.at_ < a.at_
    · simp [h1, h2] <;> omega
    · by_cases h3 : a.seq < b.seq
      · simp [h1, h2, h3] <;> omega
      · by_cases h4 : b.seq < a.seq
        · simp [h1, h2, h3, h4] <;> omega
        · simp [h1, h2, h3, h4] <;> omega
theorem placeOf_c {els : List Transit} {p : Transit} {r : Nat} (hr : r ≤ els.length) (h : ∀ j (h : j < (els.map Transit.c).length), ltC (els.map Transit.c)[j] p.c ↔ j < r) : PlaceOf els p r := by
  refine ⟨hr, fun j hj hjr => ?_, fun j hj hjr hlt => ?_⟩
  · have := (h j (by simpa using hj)).2 hjr
    rw [List.getElem_map] at this
    exact (orderI_lt _ _).2 this
  · have h2 := (orderI_lt _ _).1 hlt
    have := (h j (by simpa using hj)).1 (by rw [List.getElem_map]; exact h2)
    omega
theorem net_at {n : Net} (hlen : n.list.els.length = n.list.len) (hok : netOK n.c = true) {k : Nat} (hk : k < n.list.els.length) : NetAt n k hk := ((netC_iff hlen).1 hok).2 k hk (by omega)
def zeroNet : Net := ⟨0, Slc.nil _⟩
theorem zeroNet_good (H : Hp) : Enc.good H zeroNet := ⟨by show I64 0; decide, Slc.nil_good⟩
def Sent (w : World) (H : Hp) (r : NetC × Int) : Ending → World → Prop := RetF w H (fun q : Hp × Net => q.2.c = r.1 ∧ Enc.good q.1 q.2) (fun q => .tuple #[.agg (enc q.2).toArray, intV r.2]) (fun q => q.1)
theorem sendC_no {n : NetC} {m : MsgC} {now : Int} {f : FateC} (h : ¬ (netOK n = true ∧ msgOK m = true ∧ (0 ≤ now ∧ now ≤ 20000000) ∧ fateOK f m.kind = true)) : sendC n m now f = (netNil, 1) := by
  unfold sendC
  rw [if_pos]
  simp only [Bool.not_eq_true', Bool.eq_false_iff, ne_eq, Bool.and_eq_true, decide_eq_true_eq]
  grind
theorem sendC_yes {n : NetC} {m : MsgC} {now : Int} {f : FateC} (h1 : netOK n = true) (h2 : msgOK m = true) (h3 : 0 ≤ now ∧ now ≤ 20000000) (h4 : fateOK f m.kind = true) : sendC n m now f = (if f.lost then (n, 0) else
  if 20000000 < now + f.delay ∨ 1000000000 < n.seq + f.copies then (netNil, 2) else
  if 200 < (n.list.length : Int) + f.copies then (netNil, 41) else
  (⟨n.seq + f.copies, early (now + f.delay) n.list ++ copiesC (travelsC m f.forge) (now + f.delay) n.seq f.copies.toNat ++ late (now + f.delay) n.list⟩, 0)) := by
  unfold sendC
  rw [if_neg]
  rw [h1, h2, h4, decide_eq_true h3]; decide
theorem fate_bounds {f : FateC} {kind : Int} (h : fateOK f kind = true) : (0 ≤ f.delay ∧ f.delay ≤ 100000) ∧ (1 ≤ f.copies ∧ f.copies ≤ 8) ∧ (0 ≤ f.forge ∧ f.forge ≤ 3) := by
  unfold fateOK at h
  simp only [Bool.and_eq_true, decide_eq_true_eq] at h
  exact ⟨h.1.1.1, h.1.1.2, h.1.2⟩
set_option maxHeartbeats 4000000 in
theorem c_Send (n : Net) (m : Msg) (now : Int) (f : FateC) (H : Hp) (w : World) (hs : Sat H w) (hR : Rules H) (hn : Enc.good H n) (hm : Enc.good H m) (hnow : I64 now) (hf : Enc.good H f) : Calls Tryz.prog 7 #[.agg (enc n).toArray, .agg (enc m).toArray, intV now, .agg (enc f).toArray] w (Sent w H (sendC n.c m.c now f)) := by
  have hn' := hn
  obtain ⟨g1, g2⟩ := hn
  have hlen : n.list.els.length = n.list.len := g2.len
  have hlim := g2.lim
  obtain ⟨f1, f2, f3⟩ := hf
  refine T.enter (vs := [.agg (enc n).toArray, .agg (enc m).toArray, intV now, .agg (enc f).toArray]) (H := H) Tryz.func7 rfl rfl rfl hs ?_
  repeat (any_goals (first | (apply T.seqU 3; rfl) | refine T.region ?_ | (apply T.regionD wide; rfl) | refine TL.nil ?_ | refine N.next ?_ | refine N.inBlock ?_ | refine N.exit_same ?_ | refine N.exit_then ?_ | refine N.ret_then ?_ | refine N.ret_block ?_ | (apply N.exit_other; rfl) | refine T.ret ?_ | refine T.skip ?_ | refine T.exit ?_ | refine T.block ?_ | (apply T.cond_true; rfl) | (apply T.cond_false; rfl) | (apply T.test; rfl; (exact isx); intro _; rotate_left; intro _; rotate_right) | (apply TL.skip; rfl; rfl; rfl) | (apply TL.skip_none; rfl; rfl) | (apply GT.skip; rfl; rfl; rfl; decide +kernel) | (apply TL.val; rfl; rfl; (first | exact vpure | exact vread)) | (apply GT.pure; (iterate 4 rfl); (first | exact vpure); decide +kernel) | (apply GT.read; (iterate 4 rfl); (first | exact vpure | exact vread); decide +kernel) | (apply GT.done; decide +kernel; apply N.ofQ) | (apply GT.adv; rfl) | (apply TL.x; rfl; rfl; (first | exact xgrow | exact xput); intro _ _) | (apply GS.grow; rfl; rfl; (first | exact xgrow); intro _ _) | (apply GS.eff; rfl; decide +kernel; rfl; (first | exact xput); intro _ _) | (apply TL.guard; rfl; rfl; rfl; (exact isx); intro _; rotate_left; intro _; rotate_right) | (apply GT.guard; (iterate 4 rfl); (exact isx); intro _; rotate_left; intro _; rotate_right) | (apply GT.fork1; decide +kernel) | (apply GT.fork2 1; decide +kernel) | (apply GT.fork2 2; decide +kernel) | (apply GT.fork2 3; decide +kernel) | (apply GT.fork2 4; decide +kernel) | (apply GT.fork2 5; decide +kernel) | (apply GT.fork2 6; decide +kernel) | (apply GT.fork2 7; decide +kernel) | (apply GT.fork2 8; decide +kernel) | (apply GT.fork2 9; decide +kernel) | (apply GT.fork2 10; decide +kernel) | (apply GT.fork2 11; decide +kernel) | (apply GT.fork2 12; decide +kernel) | (apply GT.fork2 13; decide +kernel) | (apply GT.fork2 14; decide +kernel)))
  rename_i b4 _ b5 _ b7 _ b8 _
  refine T.cut (G := Unit) (fun _ => [(2, intV now), (4, .pointer (some ⟨b4, 0, none⟩)), (5, .pointer (some ⟨b5, 0, none⟩)), (7, .pointer (some ⟨b7, 0, none⟩)), (8, .pointer (some ⟨b8, 0, none⟩)), (9, intV 0)]) (fun _ => H) (fun _ => [.blk b8 39 (enc zeroNet), .blk b7 43 (enc f), .blk b5 33 (enc m), .blk b4 39 (enc n)]) (fun _ => netOK n.c = true ∧ msgOK m.c = true ∧ (0 ≤ now ∧ now ≤ 20000000) ∧ fateOK f m.kind = true) ?_ ?_
  · repeat (any_goals (first | refine T.seq ?_ | refine T.region ?_ | (apply T.regionD wide; rfl) | refine TL.nil ?_ | refine N.next ?_ | refine N.inBlock ?_ | refine N.exit_same ?_ | refine N.exit_then ?_ | refine N.ret_then ?_ | refine N.ret_block ?_ | (apply N.exit_other; rfl) | refine T.ret ?_ | refine T.skip ?_ | refine T.exit ?_ | refine T.block ?_ | (apply T.cond_true; rfl) | (apply T.cond_false; rfl) | (apply T.test; rfl; (exact isx); intro _; rotate_left; intro _; rotate_right) | (apply TL.skip; rfl; rfl; rfl) | (apply TL.skip_none; rfl; rfl) | (apply GT.skip; rfl; rfl; rfl; decide +kernel) | (apply GS.grow; rfl; rfl; (apply X.callR0 (f := 26) Tryz.call26; rfl; rfl; (exact fun _ hs => c_netValid _ _ _ hs.sat hR hn')); intro _ _) | (apply TL.call0 (f := 26) Tryz.call26; rfl; rfl; rfl; (exact fun _ hs => c_netValid _ _ _ hs.sat hR hn')) | (apply GT.call0 (f := 26) Tryz.call26; (iterate 5 rfl); (exact fun _ hs => c_netValid _ _ _ hs.sat hR hn'); decide +kernel) | (apply GS.grow; rfl; rfl; (apply X.callR0 (f := 27) Tryz.call27; rfl; rfl; (exact fun _ hs => c_packetValid m _ _ hs.sat hR hm)); intro _ _) | (apply TL.call0 (f := 27) Tryz.call27; rfl; rfl; rfl; (exact fun _ hs => c_packetValid m _ _ hs.sat hR hm)) | (apply GT.call0 (f := 27) Tryz.call27; (iterate 5 rfl); (exact fun _ hs => c_packetValid m _ _ hs.sat hR hm); decide +kernel) | (apply GS.grow; rfl; rfl; (apply X.callR0 (f := 28) Tryz.call28; rfl; rfl; (exact fun _ hs => c_isTime _ _ _ hs.sat)); intro _ _) | (apply TL.call0 (f := 28) Tryz.call28; rfl; rfl; rfl; (exact fun _ hs => c_isTime _ _ _ hs.sat)) | (apply GT.call0 (f := 28) Tryz.call28; (iterate 5 rfl); (exact fun _ hs => c_isTime _ _ _ hs.sat); decide +kernel) | (apply GS.grow; rfl; rfl; (apply X.callR0 (f := 29) Tryz.call29; rfl; rfl; (exact fun _ hs => c_fits f m _ _ hs.sat)); intro _ _) | (apply TL.call0 (f := 29) Tryz.call29; rfl; rfl; rfl; (exact fun _ hs => c_fits f m _ _ hs.sat)) | (apply GT.call0 (f := 29) Tryz.call29; (iterate 5 rfl); (exact fun _ hs => c_fits f m _ _ hs.sat); decide +kernel) | (apply TL.val; rfl; rfl; (apply V.build; (iterate 6 rfl))) | (apply GT.pure; (iterate 4 rfl); (apply V.build; (iterate 6 rfl)); decide +kernel) | (apply GT.read; (iterate 4 rfl); (apply V.build; (iterate 6 rfl)); decide +kernel) | (apply TL.val; rfl; rfl; (first | exact vpure | exact vread)) | (apply GT.pure; (iterate 4 rfl); (first | exact vpure); decide +kernel) | (apply GT.read; (iterate 4 rfl); (first | exact vpure | exact vread); decide +kernel) | (apply GT.done; decide +kernel; apply N.ofQ) | (apply GT.adv; rfl) | (apply TL.x; rfl; rfl; (first | exact xgrow | exact xput); intro _ _) | (apply GS.grow; rfl; rfl; (first | exact xgrow); intro _ _) | (apply GS.eff; rfl; decide +kernel; rfl; (first | exact xput); intro _ _) | (apply TL.guard; rfl; rfl; rfl; (exact isx); intro _; rotate_left; intro _; rotate_right) | (apply GT.guard; (iterate 4 rfl); (exact isx); intro _; rotate_left; intro _; rotate_right) | (apply GT.fork1; decide +kernel) | (apply GT.fork2 1; decide +kernel) | (apply GT.fork2 2; decide +kernel) | (apply GT.fork2 3; decide +kernel) | (apply GT.fork2 4; decide +kernel) | (apply GT.fork2 5; decide +kernel) | (apply GT.fork2 6; decide +kernel) | (apply GT.fork2 7; decide +kernel) | (apply GT.fork2 8; decide +kernel) | (apply GT.fork2 9; decide +kernel) | (apply GT.fork2 10; decide +kernel) | (apply GT.fork2 11; decide +kernel) | (apply GT.fork2 12; decide +kernel) | (apply GT.fork2 13; decide +kernel) | (apply GT.fork2 14; decide +kernel)))
    all_goals (try (refine N.cut (()) ?_ ?_ ?_ ?_; rotate_left 1; (repeat (first | exact True.intro | refine ⟨rfl, ?_⟩ | refine Sub.int rfl (by omega) ?_)); rfl; (first | exact List.Sublist.refl _ | exact List.nil_sublist _ | exact List.Sublist.cons _ (List.Sublist.refl _) | exact List.Sublist.cons _ (List.Sublist.cons _ (List.Sublist.refl _)))))
    all_goals first
      | exact ⟨by assumption, by assumption, by assumption, by assumption⟩
      | (apply N.ret2; rfl; (exact rvx); (exact rvx)
         intro w1 hst
         rw [sendC_no (by
           rintro ⟨e1, e2, e3, e4⟩
           first
             | contradiction
             | exact absurd (e1.symm.trans (by assumption : netOK n.c = false)) (by decide)
             | exact absurd (e2.symm.trans (by assumption : msgOK m.c = false)) (by decide)
             | exact absurd (e4.symm.trans (by assumption : fateOK f m.kind = false)) (by decide))]
         exact ⟨(H, zeroNet), ⟨rfl, zeroNet_good H⟩, rfl, hst.fresh⟩)
    all_goals trace_state
  · rintro ⟨⟩ ⟨o1, o2, o3, o4⟩
    rw [sendC_yes o1 o2 o3 o4]
    have hh := ((netC_iff hlen).1 o1).1
    obtain ⟨fd, fc, ff⟩ := fate_bounds o4
    repeat (any_goals (first | (apply T.seqU 10; rfl) | refine T.region ?_ | (apply T.regionD wide; rfl) | refine TL.nil ?_ | refine N.next ?_ | refine N.inBlock ?_ | refine N.exit_same ?_ | refine N.exit_then ?_ | refine N.ret_then ?_ | refine N.ret_block ?_ | (apply N.exit_other; rfl) | refine T.ret ?_ | refine T.skip ?_ | refine T.exit ?_ | refine T.block ?_ | (apply T.cond_true; rfl) | (apply T.cond_false; rfl) | (apply T.test; rfl; (exact isx); intro _; rotate_left; intro _; rotate_right) | (apply TL.skip; rfl; rfl; rfl) | (apply TL.skip_none; rfl; rfl) | (apply GT.skip; rfl; rfl; rfl; decide +kernel) | (apply TL.val; rfl; rfl; (apply V.build; (iterate 6 rfl))) | (apply GT.pure; (iterate 4 rfl); (apply V.build; (iterate 6 rfl)); decide +kernel) | (apply GT.read; (iterate 4 rfl); (apply V.build; (iterate 6 rfl)); decide +kernel) | (apply TL.val; rfl; rfl; (first | exact vpure | exact vread)) | (apply GT.pure; (iterate 4 rfl); (first | exact vpure); decide +kernel) | (apply GT.read; (iterate 4 rfl); (first | exact vpure | exact vread); decide +kernel) | (apply GT.done; decide +kernel; apply N.ofQ) | (apply GT.adv; rfl) | (apply TL.x; rfl; rfl; (first | exact xgrow | exact xput); intro _ _) | (apply GS.grow; rfl; rfl; (first | exact xgrow); intro _ _) | (apply GS.eff; rfl; decide +kernel; rfl; (first | exact xput); intro _ _) | (apply TL.guard; rfl; rfl; rfl; (exact isx); intro _; rotate_left; intro _; rotate_right) | (apply GT.guard; (iterate 4 rfl); (exact isx); intro _; rotate_left; intro _; rotate_right) | (apply GT.fork1; decide +kernel) | (apply GT.fork2 1; decide +kernel) | (apply GT.fork2 2; decide +kernel) | (apply GT.fork2 3; decide +kernel) | (apply GT.fork2 4; decide +kernel) | (apply GT.fork2 5; decide +kernel) | (apply GT.fork2 6; decide +kernel) | (apply GT.fork2 7; decide +kernel) | (apply GT.fork2 8; decide +kernel) | (apply GT.fork2 9; decide +kernel) | (apply GT.fork2 10; decide +kernel) | (apply GT.fork2 11; decide +kernel) | (apply GT.fork2 12; decide +kernel) | (apply GT.fork2 13; decide +kernel) | (apply GT.fork2 14; decide +kernel)))
    rename_i b10 _ _ _
    refine T.cut (G := Hp × List Transit × Value) (fun g => [(2, intV now), (4, .pointer (some ⟨b4, 0, none⟩)), (5, .pointer (some ⟨b5, 0, none⟩)), (7, .pointer (some ⟨b7, 0, none⟩)), (8, .pointer (some ⟨b8, 0, none⟩)), (9, intV 0), (10, .pointer (some ⟨b10, 0, none⟩))]) (fun g => g.1)
      (fun g => [.row g.2.2 93 11 n.list.len (encs g.2.1), .blk b10 39 [intV n.seq, g.2.2], .blk b8 39 (enc zeroNet), .blk b7 43 (enc f), .blk b5 33 (enc m), .blk b4 39 (enc n)])
      (fun g => H.le g.1 ∧ g.2.1.map Transit.c = n.list.els.map Transit.c ∧ (∀ x ∈ g.2.1, Enc.good g.1 x)) ?_ ?_
    · repeat (any_goals (first | refine T.seq ?_ | refine T.region ?_ | (apply T.regionD wide; rfl) | refine TL.nil ?_ | refine N.next ?_ | refine N.inBlock ?_ | refine N.exit_same ?_ | refine N.exit_then ?_ | refine N.ret_then ?_ | refine N.ret_block ?_ | (apply N.exit_other; rfl) | refine T.ret ?_ | refine T.skip ?_ | refine T.exit ?_ | refine T.block ?_ | (apply T.cond_true; rfl) | (apply T.cond_false; rfl) | (apply T.test; rfl; (exact isx); intro _; rotate_left; intro _; rotate_right) | (apply TL.skip; rfl; rfl; rfl) | (apply TL.skip_none; rfl; rfl) | (apply GT.skip; rfl; rfl; rfl; decide +kernel) | (apply TL.val; rfl; rfl; (first | exact vpure | exact vread)) | (apply GT.pure; (iterate 4 rfl); (first | exact vpure); decide +kernel) | (apply GT.read; (iterate 4 rfl); (first | exact vpure | exact vread); decide +kernel) | (apply GT.done; decide +kernel; apply N.ofQ) | (apply GT.adv; rfl) | (apply TL.x; rfl; rfl; (first | exact xgrow | exact xput); intro _ _) | (apply GS.grow; rfl; rfl; (first | exact xgrow); intro _ _) | (apply GS.eff; rfl; decide +kernel; rfl; (first | exact xput); intro _ _) | (apply TL.guard; rfl; rfl; rfl; (exact isx); intro _; rotate_left; intro _; rotate_right) | (apply GT.guard; (iterate 4 rfl); (exact isx); intro _; rotate_left; intro _; rotate_right) | (apply GT.fork1; decide +kernel) | (apply GT.fork2 1; decide +kernel) | (apply GT.fork2 2; decide +kernel) | (apply GT.fork2 3; decide +kernel) | (apply GT.fork2 4; decide +kernel) | (apply GT.fork2 5; decide +kernel) | (apply GT.fork2 6; decide +kernel) | (apply GT.fork2 7; decide +kernel) | (apply GT.fork2 8; decide +kernel) | (apply GT.fork2 9; decide +kernel) | (apply GT.fork2 10; decide +kernel) | (apply GT.fork2 11; decide +kernel) | (apply GT.fork2 12; decide +kernel) | (apply GT.fork2 13; decide +kernel) | (apply GT.fork2 14; decide +kernel)))
      refine T.nilRow 93 11 ?_
      refine T.loop (G := Nat × Hp × List Transit × Value) (fun g => [(2, intV now), (4, .pointer (some ⟨b4, 0, none⟩)), (5, .pointer (some ⟨b5, 0, none⟩)), (7, .pointer (some ⟨b7, 0, none⟩)), (8, .pointer (some ⟨b8, 0, none⟩)), (9, intV 0), (10, .pointer (some ⟨b10, 0, none⟩)), (38, n.list.v), (39, intV n.list.len), (40, intV g.1)]) (fun g => g.2.1)
        (fun g => [.row g.2.2.2 93 11 g.1 (encs g.2.2.1), .blk b10 39 [intV n.seq, g.2.2.2], .blk b8 39 (enc zeroNet), .blk b7 43 (enc f), .blk b5 33 (enc m), .blk b4 39 (enc n)])
        (fun g => g.1 ≤ n.list.len ∧ H.le g.2.1 ∧ g.2.2.1.map Transit.c = (n.list.els.take g.1).map Transit.c ∧ (∀ x ∈ g.2.2.1, Enc.good g.2.1 x)) (fun g => n.list.len - g.1) (0, H, [], .slice none 0 0) ⟨Nat.zero_le _, .refl _, rfl, by simp⟩ (by (repeat (first | exact True.intro | refine ⟨rfl, ?_⟩ | refine Sub.int rfl (by omega) ?_))) rfl (by (first | exact List.Sublist.refl _ | exact List.nil_sublist _ | exact List.Sublist.cons _ (List.Sublist.refl _) | exact List.Sublist.cons _ (List.Sublist.cons _ (List.Sublist.refl _)))) ?_
      rintro ⟨k, H1, els1, v⟩ ⟨hk, hle, hc, hgd⟩
      simp only at hk hle hc hgd ⊢
      have hl1 : els1.length = k := by
        have := congrArg List.length hc
        simp only [List.length_map, List.length_take] at this
        omega
      have g2' := g2.mono hle
      by_cases hlt : k < n.list.len
      · have hkl : k < n.list.els.length := by omega
        have hm1 : Enc.good H1 n.list.els[k].m := Enc.mono hle (g2.el hlt).2.2
        have hm2 : msgOK n.list.els[k].m.c = true := (net_at hlen o1 hkl).1.2.2
        have hm3 : Enc.good H1 n.list.els[k] := Enc.mono hle (g2.el hlt)
        repeat (any_goals (first | refine T.seq ?_ | refine T.region ?_ | (apply T.regionD wide; rfl) | refine TL.nil ?_ | refine N.next ?_ | refine N.inBlock ?_ | refine N.exit_same ?_ | refine N.exit_then ?_ | refine N.ret_then ?_ | refine N.ret_block ?_ | (apply N.exit_other; rfl) | refine T.ret ?_ | refine T.skip ?_ | refine T.exit ?_ | refine T.block ?_ | (apply T.cond_true; rfl) | (apply T.cond_false; rfl) | (apply T.test; rfl; (exact isx); intro _; rotate_left; intro _; rotate_right) | (apply TL.skip; rfl; rfl; rfl) | (apply TL.skip_none; rfl; rfl) | (apply GT.skip; rfl; rfl; rfl; decide +kernel) | (apply TL.x; rfl; rfl; (apply X.storeTo 0 (enc n.list.els[k]); (iterate 10 rfl)); intro _ _) | (apply GS.eff; rfl; decide +kernel; rfl; (apply X.storeTo 0 (enc n.list.els[k]); (iterate 10 rfl)); intro _ _) | (apply TL.x; rfl; rfl; (apply X.callFE (f := 30) [.agg (enc n.list.els[k].m).toArray] Tryz.call30; rfl; rfl; rfl; exact (fun _ hs => c_cloned n.list.els[k].m _ _ hs.sat hm1 hm2)); intro p1 hp1) | (apply TL.x; rfl; rfl; (apply X.storeTo 0 (enc (⟨n.list.els[k].at_, n.list.els[k].seq, p1.2⟩ : Transit)); (iterate 10 rfl)); intro _ _) | (apply GS.eff; rfl; decide +kernel; rfl; (apply X.storeTo 0 (enc (⟨n.list.els[k].at_, n.list.els[k].seq, p1.2⟩ : Transit)); (iterate 10 rfl)); intro _ _) | (apply TL.x; rfl; rfl; (apply X.append1 2; (iterate 9 rfl); exact List.Mem.head _; rfl; rfl; rfl; (refine Nat.le_trans (Nat.mul_le_mul_left _ (show _ ≤ 1000 by decide)) ?_; show (k + 1) * 1000 ≤ _; have := hh.2.2; omega); (show k + 1 ≤ _; omega)); intro p2 _) | (apply TL.val; rfl; rfl; (first | exact vpure | exact vread)) | (apply GT.pure; (iterate 4 rfl); (first | exact vpure); decide +kernel) | (apply GT.read; (iterate 4 rfl); (first | exact vpure | exact vread); decide +kernel) | (apply GT.done; decide +kernel; apply N.ofQ) | (apply GT.adv; rfl) | (apply TL.x; rfl; rfl; (first | exact xgrow | exact xput); intro _ _) | (apply GS.grow; rfl; rfl; (first | exact xgrow); intro _ _) | (apply GS.eff; rfl; decide +kernel; rfl; (first | exact xput); intro _ _) | (apply TL.guard; rfl; rfl; rfl; (exact isx); intro _; rotate_left; intro _; rotate_right) | (apply GT.guard; (iterate 4 rfl); (exact isx); intro _; rotate_left; intro _; rotate_right) | (apply GT.fork1; decide +kernel) | (apply GT.fork2 1; decide +kernel) | (apply GT.fork2 2; decide +kernel) | (apply GT.fork2 3; decide +kernel) | (apply GT.fork2 4; decide +kernel) | (apply GT.fork2 5; decide +kernel) | (apply GT.fork2 6; decide +kernel) | (apply GT.fork2 7; decide +kernel) | (apply GT.fork2 8; decide +kernel) | (apply GT.fork2 9; decide +kernel) | (apply GT.fork2 10; decide +kernel) | (apply GT.fork2 11; decide +kernel) | (apply GT.fork2 12; decide +kernel) | (apply GT.fork2 13; decide +kernel) | (apply GT.fork2 14; decide +kernel)))
        all_goals (try (exfalso; omega))
        obtain ⟨⟨e1, e2⟩, e3⟩ := hp1
        refine N.round (k + 1, p1.1, els1 ++ [⟨n.list.els[k].at_, n.list.els[k].seq, p1.2⟩], .slice (some ⟨p2.1, 0, none⟩) (k + 1) p2.2) ⟨hlt, hle.trans e3, ?_, fun x hx => ?_⟩ (by show n.list.len - (k + 1) < n.list.len - k; omega) (by (repeat (first | exact True.intro | refine ⟨rfl, ?_⟩ | refine Sub.int rfl (by omega) ?_))) rfl ?_
        · show (els1 ++ [_]).map Transit.c = (n.list.els.take (k + 1)).map Transit.c
          rw [List.take_succ_eq_append_getElem hkl, List.map_append, List.map_append, hc]
          have : Transit.c ⟨n.list.els[k].at_, n.list.els[k].seq, p1.2⟩ = n.list.els[k].c := transit_eq.2 ⟨rfl, rfl, e1⟩
          simp only [List.map_cons, List.map_nil, this]
        · rcases List.mem_append.1 hx with hx | hx
          · exact Enc.mono e3 (hgd x hx)
          · rw [List.mem_singleton] at hx
            subst hx
            exact ⟨hm3.1, hm3.2.1, e2⟩
        · simp only [encs_snoc]
          exact List.Sublist.cons _ (List.Sublist.cons _ (List.Sublist.refl _))
      · repeat (any_goals (first | refine T.seq ?_ | refine T.region ?_ | (apply T.regionD wide; rfl) | refine TL.nil ?_ | refine N.next ?_ | refine N.inBlock ?_ | refine N.exit_same ?_ | refine N.exit_then ?_ | refine N.ret_then ?_ | refine N.ret_block ?_ | (apply N.exit_other; rfl) | refine T.ret ?_ | refine T.skip ?_ | refine T.exit ?_ | refine T.block ?_ | (apply T.cond_true; rfl) | (apply T.cond_false; rfl) | (apply T.test; rfl; (exact isx); intro _; rotate_left; intro _; rotate_right) | (apply TL.skip; rfl; rfl; rfl) | (apply TL.skip_none; rfl; rfl) | (apply GT.skip; rfl; rfl; rfl; decide +kernel) | (apply TL.val; rfl; rfl; (first | exact vpure | exact vread)) | (apply GT.pure; (iterate 4 rfl); (first | exact vpure); decide +kernel) | (apply GT.read; (iterate 4 rfl); (first | exact vpure | exact vread); decide +kernel) | (apply GT.done; decide +kernel; apply N.ofQ) | (apply GT.adv; rfl) | (apply TL.x; rfl; rfl; (first | exact xgrow | exact xput); intro _ _) | (apply GS.grow; rfl; rfl; (first | exact xgrow); intro _ _) | (apply GS.eff; rfl; decide +kernel; rfl; (first | exact xput); intro _ _) | (apply TL.guard; rfl; rfl; rfl; (exact isx); intro _; rotate_left; intro _; rotate_right) | (apply GT.guard; (iterate 4 rfl); (exact isx); intro _; rotate_left; intro _; rotate_right) | (apply GT.fork1; decide +kernel) | (apply GT.fork2 1; decide +kernel) | (apply GT.fork2 2; decide +kernel) | (apply GT.fork2 3; decide +kernel) | (apply GT.fork2 4; decide +kernel) | (apply GT.fork2 5; decide +kernel) | (apply GT.fork2 6; decide +kernel) | (apply GT.fork2 7; decide +kernel) | (apply GT.fork2 8; decide +kernel) | (apply GT.fork2 9; decide +kernel) | (apply GT.fork2 10; decide +kernel) | (apply GT.fork2 11; decide +kernel) | (apply GT.fork2 12; decide +kernel) | (apply GT.fork2 13; decide +kernel) | (apply GT.fork2 14; decide +kernel)))
        all_goals (try (exfalso; omega))
        obtain rfl : k = n.list.len := by omega
        refine N.cut (H1, els1, v) ⟨hle, ?_, hgd⟩ (by (repeat (first | exact True.intro | refine ⟨rfl, ?_⟩ | refine Sub.int rfl (by omega) ?_))) rfl (by (first | exact List.Sublist.refl _ | exact List.nil_sublist _ | exact List.Sublist.cons _ (List.Sublist.refl _) | exact List.Sublist.cons _ (List.Sublist.cons _ (List.Sublist.refl _))))
        rw [hc, ← hlen, List.take_length]
    · rintro ⟨H1, els1, v⟩ ⟨hle, hc, hgd⟩
      simp only at hle hc hgd ⊢
      have hl1 : els1.length = n.list.len := by
        have := congrArg List.length hc
        simp only [List.length_map] at this
        omega
      refine T.freezeRow rfl hl1 hgd ?_
      rintro H2 s1 rfl rfl hg3 hle2
      have hnl : (n.c.list.length : Int) = n.list.len := by
        show (((n.list.els.map Transit.c).length : Nat) : Int) = _
        rw [List.length_map, hlen]
      have hsc : n.c.seq = n.seq := rfl
      have hh1 := hh.1
      have hh2 := hh.2.1
      have hh3 := hh.2.2
      repeat (any_goals (first | refine T.seq ?_ | refine T.region ?_ | (apply T.regionD wide; rfl) | refine TL.nil ?_ | refine N.next ?_ | refine N.inBlock ?_ | refine N.exit_same ?_ | refine N.exit_then ?_ | refine N.ret_then ?_ | refine N.ret_block ?_ | (apply N.exit_other; rfl) | refine T.ret ?_ | refine T.skip ?_ | refine T.exit ?_ | refine T.block ?_ | (apply T.cond_true; rfl) | (apply T.cond_false; rfl) | (apply T.test; rfl; (exact isx); intro _; rotate_left; intro _; rotate_right) | (apply TL.skip; rfl; rfl; rfl) | (apply TL.skip_none; rfl; rfl) | (apply GT.skip; rfl; rfl; rfl; decide +kernel) | (apply TL.val; rfl; rfl; (apply V.build; (iterate 6 rfl))) | (apply GT.pure; (iterate 4 rfl); (apply V.build; (iterate 6 rfl)); decide +kernel) | (apply GT.read; (iterate 4 rfl); (apply V.build; (iterate 6 rfl)); decide +kernel) | (apply TL.val; rfl; rfl; (first | exact vpure | exact vread)) | (apply GT.pure; (iterate 4 rfl); (first | exact vpure); decide +kernel) | (apply GT.read; (iterate 4 rfl); (first | exact vpure | exact vread); decide +kernel) | (apply GT.done; decide +kernel; apply N.ofQ) | (apply GT.adv; rfl) | (apply TL.x; rfl; rfl; (first | exact xgrow | exact xput); intro _ _) | (apply GS.grow; rfl; rfl; (first | exact xgrow); intro _ _) | (apply GS.eff; rfl; decide +kernel; rfl; (first | exact xput); intro _ _) | (apply TL.guard; rfl; rfl; rfl; (exact isx); intro _; rotate_left; intro _; rotate_right) | (apply GT.guard; (iterate 4 rfl); (exact isx); intro _; rotate_left; intro _; rotate_right) | (apply GT.fork1; decide +kernel) | (apply GT.fork2 1; decide +kernel) | (apply GT.fork2 2; decide +kernel) | (apply GT.fork2 3; decide +kernel) | (apply GT.fork2 4; decide +kernel) | (apply GT.fork2 5; decide +kernel) | (apply GT.fork2 6; decide +kernel) | (apply GT.fork2 7; decide +kernel) | (apply GT.fork2 8; decide +kernel) | (apply GT.fork2 9; decide +kernel) | (apply GT.fork2 10; decide +kernel) | (apply GT.fork2 11; decide +kernel) | (apply GT.fork2 12; decide +kernel) | (apply GT.fork2 13; decide +kernel) | (apply GT.fork2 14; decide +kernel)))
      · apply N.ret2; rfl; (exact rvx); (exact rvx)
        intro w1 hst
        rw [if_pos (by assumption)]
        exact ⟨(H2, ⟨n.seq, s1⟩), ⟨net_eq.2 ⟨rfl, hc⟩, ⟨g1, hg3⟩⟩, rfl, hst.fresh⟩
      · apply N.ret2; rfl; (exact rvx); (exact rvx)
        intro w1 hst
        rw [if_neg (by rw [(by assumption : f.lost = false)]; decide), if_pos (.inl (by assumption))]
        exact ⟨(H2, zeroNet), ⟨rfl, zeroNet_good H2⟩, rfl, hst.fresh⟩
      · apply N.ret2; rfl; (exact rvx); (exact rvx)
        intro w1 hst
        rw [if_neg (by rw [(by assumption : f.lost = false)]; decide), if_pos (.inr (by assumption))]
        exact ⟨(H2, zeroNet), ⟨rfl, zeroNet_good H2⟩, rfl, hst.fresh⟩
      · apply N.ret2; rfl; (exact rvx); (exact rvx)
        intro w1 hst
        rw [if_neg (by rw [(by assumption : f.lost = false)]; decide), if_neg (by rw [hsc]; omega), if_pos (by rw [hnl]; omega)]
        exact ⟨(H2, zeroNet), ⟨rfl, zeroNet_good H2⟩, rfl, hst.fresh⟩
      rename_i hlo hd1 hd2 hd3
      rw [if_neg (by rw [hlo]; decide), if_neg (by rw [hsc]; omega), if_neg (by rw [hnl]; omega)]
      obtain ⟨A, hA⟩ : ∃ A, A = now + f.delay := ⟨_, rfl⟩
      have hch : chain netLe n.c.list = true := by
        have := o1
        unfold netOK at this
        simp only [Bool.and_eq_true] at this
        exact this.1.2
      have hY := late_gt A hch
      have hX : ∀ x ∈ early A n.c.list, x.at_ ≤ A ∧ x.seq < n.seq := fun x hx => ⟨early_le A x hx, by
        have hx' := early_mem hx
        obtain ⟨t, ht, rfl⟩ := List.mem_map.1 (show x ∈ n.list.els.map Transit.c from hx')
        obtain ⟨j, hj, rfl⟩ := List.mem_iff_getElem.1 ht
        exact (net_at hlen o1 hj).1.2.1.2⟩
      have hXl : (early A n.c.list).length ≤ n.list.len := by
        have := congrArg List.length (early_late A n.c.list)
        rw [List.length_append] at this
        omega
      rw [← hA]
      refine T.loop (G := Nat × Hp × Slc Transit) (fun g => [(2, intV now), (4, .pointer (some ⟨b4, 0, none⟩)), (5, .pointer (some ⟨b5, 0, none⟩)), (7, .pointer (some ⟨b7, 0, none⟩)), (8, .pointer (some ⟨b8, 0, none⟩)), (9, intV 0), (10, .pointer (some ⟨b10, 0, none⟩)), (81, intV f.copies), (82, intV g.1)]) (fun g => g.2.1)
        (fun g => [.blk b10 39 [intV (n.seq + g.1), g.2.2.v], .blk b8 39 (enc zeroNet), .blk b7 43 (enc f), .blk b5 33 (enc m), .blk b4 39 (enc n)])
        (fun g => g.1 ≤ f.copies.toNat ∧ H2.le g.2.1 ∧ g.2.2.Good g.2.1 ∧ g.2.2.els.map Transit.c = early A n.c.list ++ copiesC (travelsC m.c f.forge) A n.seq g.1 ++ late A n.c.list) (fun g => f.copies.toNat - g.1) (0, H2, s1) ⟨Nat.zero_le _, .refl _, hg3, ?_⟩ (by (repeat (first | exact True.intro | refine ⟨rfl, ?_⟩ | refine Sub.int rfl (by omega) ?_))) rfl ?_ ?_
      · show s1.els.map Transit.c = _
        rw [hc, show copiesC (travelsC m.c f.forge) A n.seq 0 = [] from rfl, List.append_nil, early_late]; rfl
      · simp only [show n.seq + ((0 : Nat) : Int) = n.seq by omega]
        exact List.Sublist.refl _
      · rintro ⟨k, H3, s2⟩ ⟨hk, hle3, hg4, hc4⟩
        simp only at hk hle3 hg4 hc4 ⊢
        have hl4 : s2.len = n.list.len + k := by
          have h1 := congrArg List.length hc4
          have h2 := congrArg List.length (early_late A n.c.list)
          simp only [List.length_map, List.length_append, copiesC_len] at h1 h2
          rw [hg4.len] at h1
          omega
        by_cases hlt : (k : Int) < f.copies
        · have hm4 : Enc.good H3 m := Enc.mono ((hle.trans hle2).trans hle3) hm
          have hpl : ∀ q : Msg, PlaceOf s2.els ⟨now + f.delay, n.seq + k, q⟩ ((early A n.c.list).length + k) := fun q => by
            refine placeOf_c (by rw [hg4.len, hl4]; omega) fun j hj => ?_
            have hq := place_iff (m := travelsC m.c f.forge) (m' := q.c) (S := n.seq) (k := k) hX hY j (by rw [← hc4]; exact hj)
            rw [← hA]
            have e : (s2.els.map Transit.c)[j] = (early A n.c.list ++ copiesC (travelsC m.c f.forge) A n.seq k ++ late A n.c.list)[j]'(by rw [← hc4]; exact hj) := by simp only [hc4]
            rw [e]; exact hq
          repeat (any_goals (first | refine T.seq ?_ | refine T.region ?_ | (apply T.regionD wide; rfl) | refine TL.nil ?_ | refine N.next ?_ | refine N.inBlock ?_ | refine N.exit_same ?_ | refine N.exit_then ?_ | refine N.ret_then ?_ | refine N.ret_block ?_ | (apply N.exit_other; rfl) | refine T.ret ?_ | refine T.skip ?_ | refine T.exit ?_ | refine T.block ?_ | (apply T.cond_true; rfl) | (apply T.cond_false; rfl) | (apply T.test; rfl; (exact isx); intro _; rotate_left; intro _; rotate_right) | (apply TL.skip; rfl; rfl; rfl) | (apply TL.skip_none; rfl; rfl) | (apply GT.skip; rfl; rfl; rfl; decide +kernel) | (apply TL.val; rfl; rfl; (apply V.build; (iterate 6 rfl))) | (apply GT.pure; (iterate 4 rfl); (apply V.build; (iterate 6 rfl)); decide +kernel) | (apply GT.read; (iterate 4 rfl); (apply V.build; (iterate 6 rfl)); decide +kernel) | (apply GS.grow; rfl; rfl; (apply X.callFE (f := 31) [.agg (enc m).toArray, intV f.forge] Tryz.call31; rfl; rfl; rfl; exact (fun _ hs => c_travels m f.forge _ _ hs.sat hm4 o2 ff)); intro p1 hp1) | (apply GS.eff; rfl; decide +kernel; rfl; (apply X.storeTo 0 (enc (⟨now + f.delay, n.seq + k, p1.2⟩ : Transit)); (iterate 10 rfl)); intro _ _) | (apply TL.x; rfl; rfl; (apply X.callFE (f := 32) [s2.v, .agg (enc (⟨now + f.delay, n.seq + k, p1.2⟩ : Transit)).toArray] Tryz.call32; rfl; rfl; rfl; exact (fun _ hs => c_insert s2 _ _ _ _ hs.sat (hg4.mono hp1.2) ⟨by show I64 (now + f.delay); constructor <;> omega, by show I64 (n.seq + k); constructor <;> omega, hp1.1.2⟩ (hpl _) (by omega))); intro p3 hp3) | (apply TL.x; rfl; rfl; (apply X.storeTo 1 [intV (n.seq + k), p3.2.v]; (iterate 10 rfl)); intro _ _) | (apply GS.eff; rfl; decide +kernel; rfl; (apply X.storeTo 1 [intV (n.seq + k), p3.2.v]; (iterate 10 rfl)); intro _ _) | (apply TL.x; rfl; rfl; (apply X.storeTo 1 [intV (n.seq + k + 1), p3.2.v]; (iterate 10 rfl)); intro _ _) | (apply GS.eff; rfl; decide +kernel; rfl; (apply X.storeTo 1 [intV (n.seq + k + 1), p3.2.v]; (iterate 10 rfl)); intro _ _) | (apply TL.val; rfl; rfl; (first | exact vpure | exact vread)) | (apply GT.pure; (iterate 4 rfl); (first | exact vpure); decide +kernel) | (apply GT.read; (iterate 4 rfl); (first | exact vpure | exact vread); decide +kernel) | (apply GT.done; decide +kernel; apply N.ofQ) | (apply GT.adv; rfl) | (apply TL.x; rfl; rfl; (first | exact xgrow | exact xput); intro _ _) | (apply GS.grow; rfl; rfl; (first | exact xgrow); intro _ _) | (apply GS.eff; rfl; decide +kernel; rfl; (first | exact xput); intro _ _) | (apply TL.guard; rfl; rfl; rfl; (exact isx); intro _; rotate_left; intro _; rotate_right) | (apply GT.guard; (iterate 4 rfl); (exact isx); intro _; rotate_left; intro _; rotate_right) | (apply GT.fork1; decide +kernel) | (apply GT.fork2 1; decide +kernel) | (apply GT.fork2 2; decide +kernel) | (apply GT.fork2 3; decide +kernel) | (apply GT.fork2 4; decide +kernel) | (apply GT.fork2 5; decide +kernel) | (apply GT.fork2 6; decide +kernel) | (apply GT.fork2 7; decide +kernel) | (apply GT.fork2 8; decide +kernel) | (apply GT.fork2 9; decide +kernel) | (apply GT.fork2 10; decide +kernel) | (apply GT.fork2 11; decide +kernel) | (apply GT.fork2 12; decide +kernel) | (apply GT.fork2 13; decide +kernel) | (apply GT.fork2 14; decide +kernel)))
          all_goals (try (exfalso; omega))
          all_goals
            obtain ⟨⟨e1, e2⟩, e3⟩ := hp1
            obtain ⟨⟨i1, i2⟩, i3⟩ := hp3
            refine N.round (k + 1, p3.1, p3.2) ⟨by show k + 1 ≤ f.copies.toNat; omega, (hle3.trans e3).trans i3, i2, ?_⟩ (by show f.copies.toNat - (k + 1) < f.copies.toNat - k; omega) (by (repeat (first | exact True.intro | refine ⟨rfl, ?_⟩ | refine Sub.int rfl (by omega) ?_))) rfl ?_
            · show p3.2.els.map Transit.c = _
              have ec : Transit.c ⟨now + f.delay, n.seq + k, p1.2⟩ = ⟨A, n.seq + k, travelsC m.c f.forge⟩ := by
                show (⟨now + f.delay, n.seq + k, p1.2.c⟩ : TransitC) = _
                rw [e1, hA]
              rw [i1, List.map_append, List.map_cons, List.map_take, List.map_drop, hc4, ec]
              exact put_copy _ _ _ _ _ _
            · simp only [List.set_cons_zero, List.set_cons_succ, show n.seq + ((k + 1 : Nat) : Int) = n.seq + k + 1 by omega]
              exact List.Sublist.cons _ (List.Sublist.refl _)
        · repeat (any_goals (first | refine T.seq ?_ | refine T.region ?_ | (apply T.regionD wide; rfl) | refine TL.nil ?_ | refine N.next ?_ | refine N.inBlock ?_ | refine N.exit_same ?_ | refine N.exit_then ?_ | refine N.ret_then ?_ | refine N.ret_block ?_ | (apply N.exit_other; rfl) | refine T.ret ?_ | refine T.skip ?_ | refine T.exit ?_ | refine T.block ?_ | (apply T.cond_true; rfl) | (apply T.cond_false; rfl) | (apply T.test; rfl; (exact isx); intro _; rotate_left; intro _; rotate_right) | (apply TL.skip; rfl; rfl; rfl) | (apply TL.skip_none; rfl; rfl) | (apply GT.skip; rfl; rfl; rfl; decide +kernel) | (apply TL.val; rfl; rfl; (first | exact vpure | exact vread)) | (apply GT.pure; (iterate 4 rfl); (first | exact vpure); decide +kernel) | (apply GT.read; (iterate 4 rfl); (first | exact vpure | exact vread); decide +kernel) | (apply GT.done; decide +kernel; apply N.ofQ) | (apply GT.adv; rfl) | (apply TL.x; rfl; rfl; (first | exact xgrow | exact xput); intro _ _) | (apply GS.grow; rfl; rfl; (first | exact xgrow); intro _ _) | (apply GS.eff; rfl; decide +kernel; rfl; (first | exact xput); intro _ _) | (apply TL.guard; rfl; rfl; rfl; (exact isx); intro _; rotate_left; intro _; rotate_right) | (apply GT.guard; (iterate 4 rfl); (exact isx); intro _; rotate_left; intro _; rotate_right) | (apply GT.fork1; decide +kernel) | (apply GT.fork2 1; decide +kernel) | (apply GT.fork2 2; decide +kernel) | (apply GT.fork2 3; decide +kernel) | (apply GT.fork2 4; decide +kernel) | (apply GT.fork2 5; decide +kernel) | (apply GT.fork2 6; decide +kernel) | (apply GT.fork2 7; decide +kernel) | (apply GT.fork2 8; decide +kernel) | (apply GT.fork2 9; decide +kernel) | (apply GT.fork2 10; decide +kernel) | (apply GT.fork2 11; decide +kernel) | (apply GT.fork2 12; decide +kernel) | (apply GT.fork2 13; decide +kernel) | (apply GT.fork2 14; decide +kernel)))
          all_goals (try (exfalso; omega))
          apply N.ret2; rfl; (exact rvx); (exact rvx)
          intro w1 hst
          have hkc : k = f.copies.toNat := by omega
          have hkc' : (k : Int) = f.copies := by omega
          refine ⟨(H3, ⟨n.seq + k, s2⟩), ⟨?_, ⟨by show I64 (n.seq + k); constructor <;> omega, hg4⟩⟩, rfl, hst.fresh⟩
          show (⟨n.seq + k, s2.els.map Transit.c⟩ : NetC) = ⟨n.c.seq + f.copies, _⟩
          rw [hc4, hkc', hkc, hsc]
end Go.Proofs.YtpnoabbdcakjkaaGreatDoor
