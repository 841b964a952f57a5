/- Walks: Receive. -/
import Derived.Test.YtpnoabbdcakjkaaGreatDoorQWQ
namespace Go.Proofs.YtpnoabbdcakjkaaGreatDoor
set_option linter.unusedVariables false
set_option linter.unusedSimpArgs false
open Go Go.RowKit
open Enc (enc)
set_option maxRecDepth 20000

def Got (w : World) (H : Hp) (r : NetC × List MsgC × Int) : Ending → World → Prop := RetF w H (fun q : Hp × Net × Slc Msg => q.2.1.c = r.1 ∧ q.2.2.els.map Msg.c = r.2.1 ∧ Enc.good q.1 q.2.1 ∧ q.2.2.Good q.1) (fun q => .tuple #[.agg (enc q.2.1).toArray, q.2.2.v, intV r.2.2]) (fun q => q.1)
theorem receiveC_no {n : NetC} {addr now : Int} (h : ¬ (netOK n = true ∧ (1 ≤ addr ∧ addr ≤ 1000000) ∧ (0 ≤ now ∧ now ≤ 20000000))) : receiveC n addr now = (netNil, [], 1) := by
  unfold receiveC
  rw [if_pos]
  simp only [Bool.not_eq_true', Bool.eq_false_iff, ne_eq, Bool.and_eq_true, decide_eq_true_eq]
  grind
theorem receiveC_yes {n : NetC} {addr now : Int} (h1 : netOK n = true) (h2 : 1 ≤ addr ∧ addr ≤ 1000000) (h3 : 0 ≤ now ∧ now ≤ 20000000) : receiveC n addr now = (⟨n.seq, n.list.filter fun t => !hitC addr now t⟩, (n.list.filter (hitC addr now)).map (·.m), 0) := by
  unfold receiveC
  rw [if_neg]
  rw [h1, decide_eq_true h2, decide_eq_true h3]; decide
theorem hit_yes {t : TransitC} {addr now : Int} (h1 : t.m.to = addr) (h2 : t.at_ ≤ now) : hitC addr now t = true := by
  unfold hitC; rw [decide_eq_true h1, decide_eq_true h2]; rfl
theorem hit_no {t : TransitC} {addr now : Int} (h : ¬ (t.m.to = addr ∧ t.at_ ≤ now)) : hitC addr now t = false := by
  unfold hitC; rw [← dec_and]; exact decide_eq_false h
theorem take_filter {α : Type} {l : List α} {k : Nat} (p : α → Bool) (hk : k < l.length) : (l.take (k + 1)).filter p = (l.take k).filter p ++ if p l[k] = true then [l[k]] else [] := by
  rw [List.take_succ_eq_append_getElem hk, List.filter_append]
  congr 1
  rw [List.filter_cons]
  rfl
theorem net_eq' {a : Net} {r : NetC} : a.c = r ↔ (a.seq = r.seq ∧ a.list.els.map Transit.c = r.list) := by
  unfold Net.c; cases r; simp
set_option maxHeartbeats 4000000 in
theorem c_Receive (n : Net) (addr now : Int) (H : Hp) (w : World) (hs : Sat H w) (hR : Rules H) (hn : Enc.good H n) : Calls Tryz.prog 8 #[.agg (enc n).toArray, intV addr, intV now] w (Got w H (receiveC n.c addr now)) := by
  have hn' := hn
  obtain ⟨g1, g2⟩ := hn
  have hlen : n.list.els.length = n.list.len := g2.len
  have hlim := g2.lim
  refine T.enter (vs := [.agg (enc n).toArray, intV addr, intV now]) (H := H) Tryz.func8 rfl rfl rfl hs ?_
  repeat (any_goals (first | (apply T.seqU 3; rfl) | refine T.region ?_ | refine TL.nil ?_ | refine N.next ?_ | refine N.inBlock ?_ | refine N.exit_same ?_ | refine N.exit_then ?_ | refine N.ret_then ?_ | refine N.ret_block ?_ | (apply N.exit_other; rfl) | refine T.ret ?_ | refine T.skip ?_ | refine T.exit ?_ | refine T.block ?_ | (apply T.cond_true; rfl) | (apply T.cond_false; rfl) | (apply T.test; rfl; (exact isx); intro _; rotate_left; intro _; rotate_right) | (apply TL.skip; rfl; rfl; rfl) | (apply TL.skip_none; rfl; rfl) | (apply TL.val; rfl; rfl; (first | exact vpure | exact vread)) | (apply TL.x; rfl; rfl; (first | exact xgrow | exact xput); intro _ _) | (apply TL.guard; rfl; rfl; rfl; (exact isx); intro _; rotate_left; intro _; rotate_right)))
  rename_i b3 _ b6 _
  refine T.cut (G := Unit) (fun _ => [(1, intV addr), (2, intV now), (3, .pointer (some ⟨b3, 0, none⟩)), (6, .pointer (some ⟨b6, 0, none⟩)), (7, .slice none 0 0), (8, intV 0)]) (fun _ => H) (fun _ => [.blk b6 39 (enc zeroNet), .blk b3 39 (enc n)]) (fun _ => netOK n.c = true ∧ (1 ≤ addr ∧ addr ≤ 1000000) ∧ (0 ≤ now ∧ now ≤ 20000000)) ?_ ?_
  · repeat (any_goals (first | refine T.seq ?_ | refine T.region ?_ | refine TL.nil ?_ | refine N.next ?_ | refine N.inBlock ?_ | refine N.exit_same ?_ | refine N.exit_then ?_ | refine N.ret_then ?_ | refine N.ret_block ?_ | (apply N.exit_other; rfl) | refine T.ret ?_ | refine T.skip ?_ | refine T.exit ?_ | refine T.block ?_ | (apply T.cond_true; rfl) | (apply T.cond_false; rfl) | (apply T.test; rfl; (exact isx); intro _; rotate_left; intro _; rotate_right) | (apply TL.skip; rfl; rfl; rfl) | (apply TL.skip_none; rfl; rfl) | (apply TL.call0 (f := 26) Tryz.call26; rfl; rfl; rfl; (exact fun _ hs => c_netValid _ _ _ hs.sat hR hn')) | (apply TL.call0 (f := 28) Tryz.call28; rfl; rfl; rfl; (exact fun _ hs => c_isTime _ _ _ hs.sat)) | (apply TL.val; rfl; rfl; (apply V.build; (iterate 6 rfl))) | (apply TL.val; rfl; rfl; (first | exact vpure | exact vread)) | (apply TL.x; rfl; rfl; (first | exact xgrow | exact xput); intro _ _) | (apply TL.guard; rfl; rfl; rfl; (exact isx); intro _; rotate_left; intro _; rotate_right)))
    all_goals (try (refine N.cut (()) ?_ ?_ ?_ ?_; rotate_left 1; (repeat (first | exact True.intro | refine ⟨rfl, ?_⟩ | refine Sub.int rfl (by omega) ?_)); rfl; (first | exact List.Sublist.refl _ | exact List.nil_sublist _ | exact List.Sublist.cons _ (List.Sublist.refl _) | exact List.Sublist.cons _ (List.Sublist.cons _ (List.Sublist.refl _)))))
    all_goals first
      | exact ⟨by assumption, ⟨by omega, by omega⟩, by assumption⟩
      | (apply N.ret3; rfl; (exact rvx); (exact rvx); (exact rvx)
         intro w1 hst
         rw [receiveC_no (by
           rintro ⟨e1, e2, e3⟩
           first
             | contradiction
             | omega
             | exact absurd (e1.symm.trans (by assumption : netOK n.c = false)) (by decide))]
         exact ⟨(H, zeroNet, Slc.nil _), ⟨rfl, rfl, zeroNet_good H, Slc.nil_good⟩, rfl, hst.fresh⟩)
    all_goals trace_state
  · rintro ⟨⟩ ⟨o1, o2, o3⟩
    rw [receiveC_yes o1 o2 o3]
    have hh := ((netC_iff hlen).1 o1).1
    repeat (any_goals (first | refine T.seq ?_ | refine T.region ?_ | refine TL.nil ?_ | refine N.next ?_ | refine N.inBlock ?_ | refine N.exit_same ?_ | refine N.exit_then ?_ | refine N.ret_then ?_ | refine N.ret_block ?_ | (apply N.exit_other; rfl) | refine T.ret ?_ | refine T.skip ?_ | refine T.exit ?_ | refine T.block ?_ | (apply T.cond_true; rfl) | (apply T.cond_false; rfl) | (apply T.test; rfl; (exact isx); intro _; rotate_left; intro _; rotate_right) | (apply TL.skip; rfl; rfl; rfl) | (apply TL.skip_none; rfl; rfl) | (apply TL.val; rfl; rfl; (apply V.build; (iterate 6 rfl))) | (apply TL.val; rfl; rfl; (first | exact vpure | exact vread)) | (apply TL.x; rfl; rfl; (first | exact xgrow | exact xput); intro _ _) | (apply TL.guard; rfl; rfl; rfl; (exact isx); intro _; rotate_left; intro _; rotate_right)))
    rename_i b9 _ _ _
    refine T.nilRow 33 9 ?_
    refine T.nilRow 93 11 ?_
    refine T.loop (G := Nat × Hp × (List Transit × Value) × (List Msg × Value)) (fun g => [(1, intV addr), (2, intV now), (3, .pointer (some ⟨b3, 0, none⟩)), (6, .pointer (some ⟨b6, 0, none⟩)), (7, .slice none 0 0), (8, intV 0), (9, .pointer (some ⟨b9, 0, none⟩)), (10, g.2.2.2.2), (34, n.list.v), (35, intV n.list.len), (36, intV g.1)]) (fun g => g.2.1)
      (fun g => [.row g.2.2.1.2 93 11 g.2.2.1.1.length (encs g.2.2.1.1), .row g.2.2.2.2 33 9 g.2.2.2.1.length (encs g.2.2.2.1), .blk b9 39 [intV n.seq, g.2.2.1.2], .blk b6 39 (enc zeroNet), .blk b3 39 (enc n)])
      (fun g => (g.1 ≤ n.list.len ∧ H.le g.2.1) ∧ (g.2.2.1.1.length ≤ g.1 ∧ g.2.2.1.1.map Transit.c = ((n.list.els.map Transit.c).take g.1).filter (fun t => !hitC addr now t) ∧ ∀ x ∈ g.2.2.1.1, Enc.good g.2.1 x) ∧ (g.2.2.2.1.length ≤ g.1 ∧ g.2.2.2.1.map Msg.c = (((n.list.els.map Transit.c).take g.1).filter (hitC addr now)).map (·.m) ∧ ∀ x ∈ g.2.2.2.1, Enc.good g.2.1 x)) (fun g => n.list.len - g.1) (0, H, ([], .slice none 0 0), ([], .slice none 0 0)) ⟨⟨Nat.zero_le _, .refl _⟩, ⟨Nat.zero_le _, by simp, by simp⟩, ⟨Nat.zero_le _, by simp, by simp⟩⟩ (by (repeat (first | exact True.intro | refine ⟨rfl, ?_⟩ | refine Sub.int rfl (by omega) ?_))) rfl (by (first | exact List.Sublist.refl _ | exact List.nil_sublist _ | exact List.Sublist.cons _ (List.Sublist.refl _) | exact List.Sublist.cons _ (List.Sublist.cons _ (List.Sublist.refl _)))) ?_
    rintro ⟨k, H1, ⟨els1, v1⟩, ⟨got1, v2⟩⟩ ⟨⟨hk, hle⟩, ⟨hl1, hc1, hg1⟩, ⟨hl2, hc2, hg2⟩⟩
    simp only at hk hle hl1 hc1 hg1 hl2 hc2 hg2 ⊢
    have g2' := g2.mono hle
    by_cases hlt : k < n.list.len
    · have hkl : k < n.list.els.length := by omega
      have hm1 : Enc.good H1 n.list.els[k].m := Enc.mono hle (g2.el hlt).2.2
      have hm2 : msgOK n.list.els[k].m.c = true := (net_at hlen o1 hkl).1.2.2
      have hm3 : Enc.good H1 n.list.els[k] := Enc.mono hle (g2.el hlt)
      have hkc : k < (n.list.els.map Transit.c).length := by rw [List.length_map]; exact hkl
      have hgc : (n.list.els.map Transit.c)[k] = n.list.els[k].c := List.getElem_map _
      have hf1 := take_filter (l := n.list.els.map Transit.c) (fun t => !hitC addr now t) hkc
      have hf2 := take_filter (l := n.list.els.map Transit.c) (hitC addr now) hkc
      rw [hgc] at hf1 hf2
      repeat (any_goals (first | refine T.seq ?_ | refine T.region ?_ | refine TL.nil ?_ | refine N.next ?_ | refine N.inBlock ?_ | refine N.exit_same ?_ | refine N.exit_then ?_ | refine N.ret_then ?_ | refine N.ret_block ?_ | (apply N.exit_other; rfl) | refine T.ret ?_ | refine T.skip ?_ | refine T.exit ?_ | refine T.block ?_ | (apply T.cond_true; rfl) | (apply T.cond_false; rfl) | (apply T.test; rfl; (exact isx); intro _; rotate_left; intro _; rotate_right) | (apply TL.skip; rfl; rfl; rfl) | (apply TL.skip_none; rfl; rfl) | (apply TL.x; rfl; rfl; (apply X.storeTo 0 (enc n.list.els[k]); (iterate 10 rfl)); intro _ _) | (apply TL.x; rfl; rfl; (apply X.callFE (f := 30) [.agg (enc n.list.els[k].m).toArray] Tryz.call30; rfl; rfl; rfl; exact (fun _ hs => c_cloned n.list.els[k].m _ _ hs.sat hm1 hm2)); intro p1 hp1) | (apply TL.x; rfl; rfl; (apply X.storeTo 0 (enc (⟨n.list.els[k].at_, n.list.els[k].seq, p1.2⟩ : Transit)); (iterate 10 rfl)); intro _ _) | (apply TL.x; rfl; rfl; (apply X.append1 2; (iterate 9 rfl); exact List.Mem.head _; rfl; rfl; rfl; (refine Nat.le_trans (Nat.mul_le_mul_left _ (show _ ≤ 1000 by decide)) ?_; show (els1.length + 1) * 1000 ≤ _; have := hh.2.2; omega); (show els1.length + 1 ≤ _; omega)); intro p2 _) | (apply TL.x; rfl; rfl; (apply X.append1 3; (iterate 9 rfl); exact List.Mem.head _; rfl; rfl; rfl; (refine Nat.le_trans (Nat.mul_le_mul_left _ (show _ ≤ 1000 by decide)) ?_; show (got1.length + 1) * 1000 ≤ _; have := hh.2.2; omega); (show got1.length + 1 ≤ _; omega)); intro p3 _) | (apply TL.val; rfl; rfl; (first | exact vpure | exact vread)) | (apply TL.x; rfl; rfl; (first | exact xgrow | exact xput); intro _ _) | (apply TL.guard; rfl; rfl; rfl; (exact isx); intro _; rotate_left; intro _; rotate_right)))
      all_goals (try (exfalso; omega))
      all_goals obtain ⟨⟨e1, e2⟩, e3⟩ := hp1
      all_goals
        have hto : p1.2.to = n.list.els[k].m.to := (msg_eq.1 e1).2.2.2.1
        have hc0 : n.list.els[k].c.m.to = n.list.els[k].m.to := rfl
        have hc3 : n.list.els[k].c.at_ = n.list.els[k].at_ := rfl
      · have h1 : p1.2.to = addr := by assumption
        have h2 : n.list.els[k].at_ ≤ now := by assumption
        have hh1 := hit_yes (t := n.list.els[k].c) (addr := addr) (now := now) (by rw [hc0, ← hto]; exact h1) (by rw [hc3]; exact h2)
        rw [hh1] at hf1 hf2
        refine N.round (k + 1, p1.1, (els1, v1), (got1 ++ [p1.2], .slice (some ⟨p3.1, 0, none⟩) (got1.length + 1) p3.2)) ⟨⟨hlt, hle.trans e3⟩, ⟨by show els1.length ≤ k + 1; omega, ?_, fun x hx => Enc.mono e3 (hg1 x hx)⟩, ⟨by show (got1 ++ [_]).length ≤ k + 1; simp only [List.length_append, List.length_cons, List.length_nil]; omega, ?_, fun x hx => ?_⟩⟩ (by show n.list.len - (k + 1) < n.list.len - k; omega) (by (repeat (first | exact True.intro | refine ⟨rfl, ?_⟩ | refine Sub.int rfl (by omega) ?_))) rfl ?_
        · show els1.map Transit.c = _
          rw [hf1, hc1]; simp
        · show (got1 ++ [_]).map Msg.c = _
          rw [hf2, List.map_append, List.map_append, hc2]
          simp only [if_true, List.map_cons, List.map_nil, e1]
          rfl
        · rcases List.mem_append.1 hx with hx | hx
          · exact Enc.mono e3 (hg2 x hx)
          · rw [List.mem_singleton] at hx
            subst hx
            exact e2
        · simp only [encs_snoc, List.length_append, List.length_cons, List.length_nil, Nat.zero_add]
          exact List.Sublist.cons _ (List.Sublist.cons _ (List.Sublist.refl _))
      all_goals
        have hh1 := hit_no (t := n.list.els[k].c) (addr := addr) (now := now) (by
          rw [hc0, ← hto, hc3]
          rintro ⟨h1, h2⟩
          first
            | exact (by assumption : ¬ n.list.els[k].at_ ≤ now) h2
            | exact (by assumption : ¬ p1.2.to = addr) h1)
        rw [hh1] at hf1 hf2
        refine N.round (k + 1, p1.1, (els1 ++ [⟨n.list.els[k].at_, n.list.els[k].seq, p1.2⟩], .slice (some ⟨p2.1, 0, none⟩) (els1.length + 1) p2.2), (got1, v2)) ⟨⟨hlt, hle.trans e3⟩, ⟨by show (els1 ++ [_]).length ≤ k + 1; simp only [List.length_append, List.length_cons, List.length_nil]; omega, ?_, fun x hx => ?_⟩, ⟨by show got1.length ≤ k + 1; omega, ?_, fun x hx => Enc.mono e3 (hg2 x hx)⟩⟩ (by show n.list.len - (k + 1) < n.list.len - k; omega) (by (repeat (first | exact True.intro | refine ⟨rfl, ?_⟩ | refine Sub.int rfl (by omega) ?_))) rfl ?_
        · show (els1 ++ [_]).map Transit.c = _
          have ec : Transit.c ⟨n.list.els[k].at_, n.list.els[k].seq, p1.2⟩ = n.list.els[k].c := transit_eq.2 ⟨rfl, rfl, e1⟩
          rw [hf1, List.map_append, hc1]
          simp [ec]
        · rcases List.mem_append.1 hx with hx | hx
          · exact Enc.mono e3 (hg1 x hx)
          · rw [List.mem_singleton] at hx
            subst hx
            exact ⟨hm3.1, hm3.2.1, e2⟩
        · show got1.map Msg.c = _
          rw [hf2, hc2]; simp
        · simp only [encs_snoc, List.length_append, List.length_cons, List.length_nil, Nat.zero_add]
          exact List.Sublist.cons _ (List.Sublist.cons _ (List.Sublist.refl _))
    · refine T.freezeRow rfl rfl hg1 ?_
      rintro H2 s1 rfl rfl hgs1 hle1
      refine T.freezeRow rfl rfl (fun x hx => Enc.mono hle1 (hg2 x hx)) ?_
      rintro H3 s2 rfl rfl hgs2 hle2
      repeat (any_goals (first | refine T.seq ?_ | refine T.region ?_ | refine TL.nil ?_ | refine N.next ?_ | refine N.inBlock ?_ | refine N.exit_same ?_ | refine N.exit_then ?_ | refine N.ret_then ?_ | refine N.ret_block ?_ | (apply N.exit_other; rfl) | refine T.ret ?_ | refine T.skip ?_ | refine T.exit ?_ | refine T.block ?_ | (apply T.cond_true; rfl) | (apply T.cond_false; rfl) | (apply T.test; rfl; (exact isx); intro _; rotate_left; intro _; rotate_right) | (apply TL.skip; rfl; rfl; rfl) | (apply TL.skip_none; rfl; rfl) | (apply TL.val; rfl; rfl; (first | exact vpure | exact vread)) | (apply TL.x; rfl; rfl; (first | exact xgrow | exact xput); intro _ _) | (apply TL.guard; rfl; rfl; rfl; (exact isx); intro _; rotate_left; intro _; rotate_right)))
      all_goals (try (exfalso; omega))
      apply N.ret3; rfl; (exact rvx); (exact rvx); (exact rvx)
      intro w1 hst
      have hkl : k = n.list.len := by omega
      have ht : (n.list.els.map Transit.c).take k = n.list.els.map Transit.c := List.take_of_length_le (by rw [List.length_map]; omega)
      rw [ht] at hc1 hc2
      exact ⟨(H3, ⟨n.seq, s1⟩, s2), ⟨net_eq'.2 ⟨rfl, hc1⟩, hc2, ⟨g1, hgs1.mono hle2⟩, hgs2⟩, rfl, hst.fresh⟩
end Go.Proofs.YtpnoabbdcakjkaaGreatDoor
