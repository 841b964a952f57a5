import Derived.Test.YthabgdbhgcgemaaGreatDoorQBO
import Derived.Test.YthabgdbhgcgemaaGreatDoorQBOB
import Derived.Test.YthabgdbhgcgemaaGreatDoorQBR
import Derived.Test.YthabgdbhgcgemaaGreatDoorQBX
import Derived.Test.YthabgdbhgcgemaaGreatDoorQBT
namespace Go.Proofs.YthabgdbhgcgemaaGreatDoor
set_option linter.unusedVariables false
set_option linter.unusedSimpArgs false
open Go Go.RowKit
open Enc (enc)
set_option maxRecDepth 20000
section
variable {H : Hp} {w : World}
set_option maxHeartbeats 32000000 in
theorem c_TopSpread (l : Slc VersionV) (primary : Int) (polls : Slc PollV) (fin : Int) (hn : Nat) (t : Int) (hpI : I64 primary) (htI : I64 t) (hhn : hn ≤ 255) (hs : Sat H w) (hR : Rules H) (hg : l.Good H) (hgp : polls.Good H) : Calls Tryz.prog 3 #[l.v, intV primary, polls.v, intV fin, .int .u8 (hn : Int), intV t] w (Ret w (.bool true)) := by
  have hlen := hg.len
  have hplen := hgp.len
  refine T.enter (vs := [l.v, intV primary, polls.v, intV fin, .int .u8 (hn : Int), intV t]) (H := H) Tryz.func3 rfl rfl rfl hs ?_
  repeat (any_goals (first | (apply T.seqU 5; rfl) | refine T.region ?_ | refine TL.nil ?_ | refine N.next ?_ | refine N.ret_then ?_ | refine T.ret ?_ | refine T.skip ?_ | (apply T.cond_true; rfl) | (apply T.test; rfl; (exact isx); intro _; rotate_left; intro _; rotate_right) | (apply TL.skip; rfl; rfl; rfl) | (apply TL.callE (f := 4) [] Tryz.call4; (iterate 4 rfl); (exact fun _ hs => c_r7Spread hs.sat hR)) | (apply TL.x; rfl; rfl; (apply X.callG (f := 5) [l.v, polls.v, intV fin] Tryz.call5; rfl; rfl; rfl; exact (fun _ hs => c_r7Right l polls fin hs.sat hg hgp)); intro v1 hv1) | (apply TL.val; rfl; rfl; (first | exact vpure | exact vread)) | (apply TL.guard; rfl; rfl; rfl; (exact isx); intro _; rotate_left; intro _; rotate_right)))
  all_goals (try contradiction)
  all_goals (try (first | exact N.ret_bool rfl (by (exact rvx)) rfl | skip))
  obtain ⟨hv, hpl⟩ := hv1 (by assumption)
  have ht0 : 0 ≤ t := by omega
  have ht1 : t < fin := by omega
  have hf2 := hv.fin2
  have hn8 := hv.n8
  obtain ⟨m, hm⟩ : ∃ m, hn % 64 = m := ⟨_, rfl⟩
  have hm64 : m < 64 := by omega
  have hmt : ((hn : Nat) : Int).tmod 64 = (m : Int) := by rw [← hm]; exact (Int.ofNat_tmod hn 64).symm
  repeat (any_goals (first | (apply T.seqU 8; rfl) | refine T.region ?_ | refine TL.nil ?_ | refine N.next ?_ | (apply TL.x; rfl; rfl; (apply X.callFE (f := 6) [l.v, intV primary, polls.v, intV fin] Tryz.call6; rfl; rfl; rfl; exact (fun _ hs => c_Spread l primary polls fin hv hpl hpI hs.sat hR hg hgp)); rintro ⟨H1, c, e⟩ ⟨⟨hsp, hcg⟩, hle⟩; dsimp only at hsp hcg hle ⊢; have hR := Rules.mono hle hR; have hg := hg.mono hle; have hgp := hgp.mono hle) | (apply TL.val; rfl; rfl; (apply V.conv; (iterate 4 rfl); exact IntWalk.i64_in _ (by omega))) | (apply TL.val; rfl; rfl; (apply V.remK hmt; rfl; rfl; decide)) | (apply TL.val; rfl; rfl; (first | exact vpure | exact vread))))
  all_goals (try contradiction)
  by_cases he : e = 0
  case neg =>
    have hc0 := hsp.bad he
    repeat (any_goals (first | refine T.seq ?_ | refine T.region ?_ | refine TL.nil ?_ | refine N.next ?_ | refine N.ret_then ?_ | refine T.ret ?_ | refine T.skip ?_ | refine T.block ?_ | (apply T.cond_true; rfl) | (apply T.test; rfl; (exact isx); intro _; rotate_left; intro _; rotate_right) | (apply TL.skip; rfl; rfl; rfl) | (apply TL.val; rfl; rfl; (first | exact vpure | exact vread)) | (apply TL.x; rfl; rfl; (first | exact xgrow | exact xput); intro _ _) | (apply TL.guard; rfl; rfl; rfl; (exact isx); intro _; rotate_left; intro _; rotate_right)))
    all_goals (try contradiction)
    all_goals first
      | exact N.ret_bool rfl (by (exact rvx)) rfl
      | exact N.ret_bool rfl (by (exact rvx)) (by simp [hc0])
      | trace_state
  subst he
  obtain ⟨⟨hp0, hp1⟩, hmap⟩ := hsp.good rfl
  by_cases hpm : (m : Int) = primary
  · repeat (any_goals (first | refine T.seq ?_ | refine T.region ?_ | refine TL.nil ?_ | refine N.next ?_ | refine N.ret_then ?_ | refine T.ret ?_ | refine T.skip ?_ | refine T.block ?_ | (apply T.test; rfl; (exact isx); intro _; rotate_left; intro _; rotate_right) | (apply TL.skip; rfl; rfl; rfl) | (apply TL.val; rfl; rfl; (first | exact vpure | exact vread)) | (apply TL.x; rfl; rfl; (first | exact xgrow | exact xput); intro _ _)))
    all_goals (try contradiction)
    all_goals first
      | exact N.ret_bool rfl (by (exact rvx)) rfl
      | trace_state
  clear hsp
  repeat (any_goals (first | refine T.seq ?_ | refine T.region ?_ | refine TL.nil ?_ | refine N.next ?_ | refine N.ret_then ?_ | refine T.ret ?_ | refine T.skip ?_ | refine T.block ?_ | (apply T.test; rfl; (exact isx); intro _; rotate_left; intro _; rotate_right) | (apply TL.skip; rfl; rfl; rfl) | (apply TL.x; rfl; rfl; (apply X.alloc (d := 17); rfl; rfl; rfl); intro b17 _) | (apply TL.val; rfl; rfl; (first | exact vpure | exact vread))))
  all_goals (try contradiction)
  refine T.nilRow 3 1 ?_
  refine T.loop (G := Value × Nat) (fun g => [(0, l.v), (5, intV t), (13, .bool true), (14, c.v), (16, intV (m : Nat)), (17, .pointer (some ⟨b17, 0, none⟩)), (18, g.1), (74, polls.v), (75, intV polls.len), (76, intV g.2)]) (fun _ => H1) (fun g => [.row g.1 3 1 (pollsTo (polls.els.take g.2) (m : Nat) t).length (encs (pollsTo (polls.els.take g.2) (m : Nat) t)), .blk b17 34 (enc SecV.nil)]) (fun g => g.2 ≤ polls.len) (fun g => polls.len - g.2) (.slice none 0 0, 0) (Nat.zero_le _) (by (repeat (first | exact True.intro | refine ⟨rfl, ?_⟩ | refine Sub.int rfl (by omega) ?_))) rfl (by exact List.Sublist.refl _) ?_
  rintro ⟨v18, k⟩ hk
  simp only at hk ⊢
  by_cases hlt : k < polls.len
  case pos =>
    have hkl : k < polls.els.length := by omega
    have hrow := hgp.row (k := k) hlt
    have hcl := polls_len (polls.els.take k) (m : Nat) t
    rw [List.length_take] at hcl
    have hyes := polls_yes (h := (m : Nat)) (t := t) hkl
    have hno := polls_no (h := (m : Nat)) (t := t) hkl
    obtain ⟨x, hx⟩ : ∃ x, polls.els[k]'hkl = x := ⟨_, rfl⟩
    rw [hx] at hrow hyes hno
    obtain ⟨xs, hxs⟩ : ∃ xs, pollsTo (polls.els.take k) (m : Nat) t = xs := ⟨_, rfl⟩
    rw [hxs] at hyes hno hcl ⊢
    by_cases hsel : x.host = (m : Nat) ∧ x.at_ ≤ t ∧ x.lost = false
    · obtain ⟨q1, q2, q3⟩ := hsel
      have hup := hyes q1 q2 q3
      have hes : encs (xs ++ [x.at_]) = encs xs ++ [intV x.at_] := encs_snoc xs x.at_
      repeat (any_goals (first | refine T.seq ?_ | refine T.region ?_ | refine TL.nil ?_ | refine N.next ?_ | refine N.inBlock ?_ | refine N.exit_same ?_ | refine N.exit_then ?_ | refine T.skip ?_ | refine T.exit ?_ | refine T.block ?_ | (apply T.cond_false; rfl) | (apply T.test; rfl; (exact isx); intro _; rotate_left; intro _; rotate_right) | (apply TL.skip; rfl; rfl; rfl) | (apply TL.val; rfl; rfl; (apply V.elem (j := k); (iterate 6 rfl); omega; exact hgp.at_ (by omega))) | (apply TL.val; rfl; rfl; (apply V.load_H_row; rfl; rfl; rfl; exact hrow; rfl)) | (apply TL.x; rfl; rfl; (apply X.alloc (d := 20); rfl; rfl; rfl); intro b20 _) | (apply TL.x; rfl; rfl; (apply X.storeTo 0 (enc x); (iterate 10 rfl)); intro _ _) | (apply TL.x; rfl; rfl; (apply X.buildSlice1 (d := 98); (iterate 8 rfl)); intro b98 _) | (apply TL.x; rfl; rfl; (apply X.append1 2; (iterate 9 rfl); exact List.Mem.head _; rfl; rfl; rfl; (refine Nat.le_trans (Nat.mul_le_mul_right _ (show _ ≤ 20001 by omega)) ?_; decide); omega); intro pa _) | (apply TL.val; rfl; rfl; (first | exact vpure | exact vread)) | (apply TL.guard; rfl; rfl; rfl; (exact isx); intro _; rotate_left; intro _; rotate_right)))
      all_goals (try contradiction)
      all_goals (try (exfalso; omega))
      all_goals (try (exfalso; simp only [q3, Bool.false_eq_true] at *; done))
      all_goals first
        | (refine N.round (.slice (some ⟨pa.1, 0, none⟩) (xs.length + 1) pa.2, k + 1) (by show k + 1 ≤ _; omega) (by show polls.len - (k + 1) < polls.len - k; omega) (by (repeat (first | exact True.intro | refine ⟨rfl, ?_⟩ | refine Sub.int rfl (by omega) ?_))) rfl ?_
           simp only [hup, hes, List.length_append, List.length_cons, List.length_nil, Nat.zero_add]
           (repeat (first | exact List.Sublist.refl _ | exact List.nil_sublist _ | apply List.Sublist.cons_cons | apply List.Sublist.cons)))
        | trace_state
    · have hup := hno hsel
      repeat (any_goals (first | refine T.seq ?_ | refine T.region ?_ | refine TL.nil ?_ | refine N.next ?_ | refine N.inBlock ?_ | refine N.exit_same ?_ | refine N.exit_then ?_ | refine T.skip ?_ | refine T.exit ?_ | refine T.block ?_ | (apply T.cond_false; rfl) | (apply T.test; rfl; (exact isx); intro _; rotate_left; intro _; rotate_right) | (apply TL.skip; rfl; rfl; rfl) | (apply TL.val; rfl; rfl; (apply V.elem (j := k); (iterate 6 rfl); omega; exact hgp.at_ (by omega))) | (apply TL.val; rfl; rfl; (apply V.load_H_row; rfl; rfl; rfl; exact hrow; rfl)) | (apply TL.x; rfl; rfl; (apply X.alloc (d := 20); rfl; rfl; rfl); intro b20 _) | (apply TL.x; rfl; rfl; (apply X.storeTo 0 (enc x); (iterate 10 rfl)); intro _ _) | (apply TL.val; rfl; rfl; (first | exact vpure | exact vread)) | (apply TL.x; rfl; rfl; (first | exact xgrow | exact xput); intro _ _) | (apply TL.guard; rfl; rfl; rfl; (exact isx); intro _; rotate_left; intro _; rotate_right)))
      all_goals (try contradiction)
      all_goals (try (exfalso; omega))
      all_goals first
        | (refine N.round (v18, k + 1) (by show k + 1 ≤ _; omega) (by show polls.len - (k + 1) < polls.len - k; omega) (by (repeat (first | exact True.intro | refine ⟨rfl, ?_⟩ | refine Sub.int rfl (by omega) ?_))) rfl ?_
           simp only [hup]
           (repeat (first | exact List.Sublist.refl _ | exact List.nil_sublist _ | apply List.Sublist.cons_cons | apply List.Sublist.cons)))
        | (exfalso; exact hsel ⟨by assumption, by assumption, by simp [*]⟩)
        | trace_state
  have hke : k = polls.len := by omega
  subst hke
  rw [List.take_of_length_le (by omega)]
  have hxl := polls_len polls.els (m : Nat) t
  have hxm := fun x (hx : x ∈ pollsTo polls.els (m : Nat) t) => polls_mem hx
  obtain ⟨xs, hxs⟩ : ∃ xs, pollsTo polls.els (m : Nat) t = xs := ⟨_, rfl⟩
  rw [hxs] at hxl hxm ⊢
  have hsl := (sortI_perm xs).length_eq
  have hso := sortI_ord xs
  repeat (any_goals (first | refine T.seq ?_ | refine T.region ?_ | refine TL.nil ?_ | refine N.next ?_ | refine N.inBlock ?_ | refine N.exit_same ?_ | refine N.exit_then ?_ | refine T.skip ?_ | refine T.exit ?_ | refine T.block ?_ | (apply T.cond_false; rfl) | (apply T.test; rfl; (exact isx); intro _; rotate_left; intro _; rotate_right) | (apply TL.skip; rfl; rfl; rfl) | (apply TL.x; rfl; rfl; (apply X.callB [v18] (f := 7); (iterate 4 rfl); exact Tryz.call7; exact fun _ hs => c_sortInts hs 0 rfl (by omega)); intro _ _; simp only [List.set_cons_zero]) | (apply TL.val; rfl; rfl; (apply V.len_row; (iterate 4 rfl); exact List.Mem.head _)) | (apply TL.val; rfl; rfl; (first | exact vpure | exact vread)) | (apply TL.x; rfl; rfl; (first | exact xgrow | exact xput); intro _ _) | (apply TL.guard; rfl; rfl; rfl; (exact isx); intro _; rotate_left; intro _; rotate_right)))
  all_goals (try contradiction)
  all_goals (try (exfalso; omega))
  refine T.frzRow 0 (els := sortI xs) rfl rfl rfl (fun x hxq => ?_) fun H2 ts e1 e2 e3 hle2 => ?_
  · obtain ⟨h1, p, hp, h2⟩ := hxm x ((sortI_perm xs).mem_iff.1 hxq)
    exact h2 ▸ (hgp.els p hp).2
  subst e1
  have hR := Rules.mono hle2 hR
  have hg := hg.mono hle2
  have hcg := hcg.mono hle2
  have htl := e3.len
  rw [e2, hsl] at htl
  have htl2 : ts.els.length = ts.len := e3.len
  have hxm : ∀ x ∈ ts.els, x ≤ t := fun x hx => (hxm x ((sortI_perm xs).mem_iff.1 (e2 ▸ hx))).1
  rw [← e2] at hso
  have hts : ts.els = sortI (pollsTo polls.els (m : Nat) t) := by rw [e2, hxs]
  have htb : ts.len ≤ 20 := by omega
  rw [hsl, htl]
  clear e2 hxs hxl hsl htl hgp
  simp only [List.eraseIdx_cons_zero]
  refine T.loop (G := Hp × SecV × Nat) (fun g => [(0, l.v), (5, intV t), (13, .bool true), (14, c.v), (16, intV (m : Nat)), (17, .pointer (some ⟨b17, 0, none⟩)), (103, ts.v), (104, intV ts.len), (105, intV g.2.2)]) (fun g => g.1) (fun g => [.blk b17 34 (enc g.2.1)]) (fun g => g.2.2 ≤ ts.len ∧ H2.le g.1 ∧ Enc.good g.1 g.2.1 ∧ SecOK l.els ts.els g.2.2 g.2.1) (fun g => ts.len - g.2.2) (H2, SecV.nil, 0) ⟨Nat.zero_le _, .refl _, ⟨⟨show LenOk ([] : Bytes) by decide, Slc.nil_good⟩, (show I64 0 by unfold I64; decide)⟩, SecOK.start⟩ (by (repeat (first | exact True.intro | refine ⟨rfl, ?_⟩ | refine Sub.int rfl (by omega) ?_))) rfl (by exact List.Sublist.refl _) ?_
  rintro ⟨H3, s, k⟩ ⟨hk, hle3, hsg, hsec⟩
  dsimp only at hk hle3 hsg hsec ⊢
  have hR := Rules.mono hle3 hR
  have hg := hg.mono hle3
  have hcg := hcg.mono hle3
  have e3 := e3.mono hle3
  by_cases hlt : k < ts.len
  case neg =>
    have hke : k = ts.els.length := by omega
    subst hke
    obtain ⟨s1, s2⟩ := served_law hmap hm64 hpm ht1 hts hsec
    have hzg : Enc.good H3 (servedZ (m : Nat) t c.els).1 := served_good hcg.els
    obtain ⟨sz, hsz⟩ : ∃ sz, servedZ (m : Nat) t c.els = sz := ⟨_, rfl⟩
    have hcS := fun {w : World} (hs : Sat H3 w) => c_r7Serving c (m : Nat) t hs hcg
    rw [hsz] at s1 s2 hzg hcS
    obtain ⟨z, b⟩ := sz
    dsimp only at s1 s2 hzg hcS
    subst s1
    have hdz : decide (z.c = s.zone.c) = true := decide_eq_true s2
    repeat (any_goals (first | refine T.seq ?_ | refine T.region ?_ | refine TL.nil ?_ | refine N.next ?_ | refine N.exit_same ?_ | refine N.exit_then ?_ | refine T.ret ?_ | refine T.skip ?_ | refine T.exit ?_ | refine T.block ?_ | (apply T.test; rfl; (exact isx); intro _; rotate_left; intro _; rotate_right) | (apply TL.callE (f := 9) [c.v, intV (m : Nat), intV t] Tryz.call9; (iterate 4 rfl); (exact fun _ hs => hcS hs.sat)) | (apply TL.x; rfl; rfl; (apply X.alloc (d := 28); rfl; rfl; rfl); intro b28 _) | (apply TL.x; rfl; rfl; (apply X.storeTo 0 (enc z); (iterate 10 rfl)); intro _ _) | (apply TL.val; rfl; rfl; (apply V.beqlT; exact Tryz.underlying4; rfl; rfl)) | (apply TL.callE (f := 10) [.agg (enc z).toArray, .agg (enc s.zone).toArray] Tryz.call10; (iterate 4 rfl); (exact fun _ hs => hdz ▸ c_SameZone z s.zone hs.sat hzg hsg.1)) | (apply TL.val; rfl; rfl; (first | exact vpure | exact vread))))
    all_goals (try contradiction)
    all_goals (try (exfalso; omega))
    all_goals first
      | exact N.ret_bool rfl (by (exact rvx)) rfl
      | trace_state
  have hkl : k < ts.els.length := by omega
  have c1 : H3.cell ts.b (ts.o + k * 1) = some (intV (ts.els[k]'hkl)) := e3.cell0 (k := k) hlt rfl
  have hut := hxm _ (List.getElem_mem hkl)
  have hskip := hsec.skip hkl
  have hpull := fun v s => SecOK.pull (l := l.els) (ts := ts.els) (v := v) (s := s) hkl
  have hseen : ∀ j (hj : j < ts.els.length), j < k → ts.els[j]'hj ≤ ts.els[k]'hkl := fun j hj hjk => List.pairwise_iff_getElem.1 hso j k hj hkl hjk
  obtain ⟨u, hu⟩ : ∃ u, ts.els[k]'hkl = u := ⟨_, rfl⟩
  rw [hu] at c1 hut hskip hpull hseen
  repeat (any_goals (first | refine T.seq ?_ | refine T.region ?_ | refine TL.nil ?_ | refine N.next ?_ | refine N.exit_same ?_ | refine N.exit_then ?_ | refine T.skip ?_ | refine T.exit ?_ | refine T.block ?_ | (apply T.test; rfl; (exact isx); intro _; rotate_left; intro _; rotate_right) | (apply TL.val; rfl; rfl; (apply V.elem (j := k); (iterate 6 rfl); omega; exact e3.at_ (by omega))) | (apply TL.val; rfl; rfl; (apply V.load_H; rfl; rfl; rfl; exact c1)) | (apply TL.val; rfl; rfl; (first | exact vpure | exact vread))))
  all_goals (try contradiction)
  all_goals (try (exfalso; omega))
  refine T.nilRow 32 2 ?_
  refine T.loop (G := Value × Nat) (fun g => [(0, l.v), (5, intV t), (13, .bool true), (14, c.v), (16, intV (m : Nat)), (17, .pointer (some ⟨b17, 0, none⟩)), (103, ts.v), (104, intV ts.len), (105, intV k), (22, intV u), (23, g.1), (109, l.v), (110, intV l.len), (111, intV g.2)]) (fun _ => H3) (fun g => [.row g.1 32 2 (pubZ (l.els.take g.2) u).length (encs (pubZ (l.els.take g.2) u)), .blk b17 34 (enc s)]) (fun g => g.2 ≤ l.len) (fun g => l.len - g.2) (.slice none 0 0, 0) (Nat.zero_le _) (by (repeat (first | exact True.intro | refine ⟨rfl, ?_⟩ | refine Sub.int rfl (by omega) ?_))) rfl (by exact List.Sublist.refl _) ?_
  rintro ⟨v23, j⟩ hj
  dsimp only at hj ⊢
  by_cases hjlt : j < l.len
  case pos =>
    have hjl : j < l.els.length := by omega
    have hrow := hg.row (k := j) hjlt
    have hcl := pubZ_len (l.els.take j) u
    rw [List.length_take] at hcl
    have hyes := pubZ_yes (u := u) hjl
    have hno := pubZ_no (u := u) hjl
    obtain ⟨y, hy⟩ : ∃ y, l.els[j]'hjl = y := ⟨_, rfl⟩
    rw [hy] at hrow hyes hno
    obtain ⟨zs, hzs⟩ : ∃ zs, pubZ (l.els.take j) u = zs := ⟨_, rfl⟩
    rw [hzs] at hyes hno hcl ⊢
    by_cases hsel : y.at_ ≤ u
    · have hup := hyes hsel
      have hes : encs (zs ++ [y.zone]) = encs zs ++ enc y.zone := encs_snoc zs y.zone
      repeat (any_goals (first | refine T.seq ?_ | refine T.region ?_ | refine TL.nil ?_ | refine N.next ?_ | refine N.inBlock ?_ | refine N.exit_same ?_ | refine N.exit_then ?_ | refine T.skip ?_ | refine T.exit ?_ | refine T.block ?_ | (apply T.test; rfl; (exact isx); intro _; rotate_left; intro _; rotate_right) | (apply TL.val; rfl; rfl; (apply V.elem (j := j); (iterate 6 rfl); omega; exact hg.at_ (by omega))) | (apply TL.val; rfl; rfl; (apply V.load_H_row; rfl; rfl; rfl; exact hrow; rfl)) | (apply TL.x; rfl; rfl; (apply X.alloc (d := 25); rfl; rfl; rfl); intro b25 _) | (apply TL.x; rfl; rfl; (apply X.storeTo 0 (enc y); (iterate 10 rfl)); intro _ _) | (apply TL.x; rfl; rfl; (apply X.buildSlice1 (d := 122) (cs := enc y.zone); (iterate 8 rfl)); intro b122 _) | (apply TL.x; rfl; rfl; (apply X.append1 2; (iterate 9 rfl); exact List.Mem.head _; rfl; rfl; rfl; (refine Nat.le_trans (Nat.mul_le_mul_right _ (show _ ≤ 20001 by omega)) ?_; decide); omega); intro pa _) | (apply TL.val; rfl; rfl; (first | exact vpure | exact vread))))
      all_goals (try contradiction)
      all_goals (try (exfalso; omega))
      all_goals first
        | (refine N.round (.slice (some ⟨pa.1, 0, none⟩) (zs.length + 1) pa.2, j + 1) (by show j + 1 ≤ _; omega) (by show l.len - (j + 1) < l.len - j; omega) (by (repeat (first | exact True.intro | refine ⟨rfl, ?_⟩ | refine Sub.int rfl (by omega) ?_))) rfl ?_
           simp only [hup, hes, List.length_append, List.length_cons, List.length_nil, Nat.zero_add]
           (repeat (first | exact List.Sublist.refl _ | exact List.nil_sublist _ | apply List.Sublist.cons_cons | apply List.Sublist.cons)))
        | trace_state
    · have hup := hno hsel
      repeat (any_goals (first | refine T.seq ?_ | refine T.region ?_ | refine TL.nil ?_ | refine N.next ?_ | refine N.inBlock ?_ | refine N.exit_same ?_ | refine N.exit_then ?_ | refine T.skip ?_ | refine T.exit ?_ | refine T.block ?_ | (apply T.test; rfl; (exact isx); intro _; rotate_left; intro _; rotate_right) | (apply TL.val; rfl; rfl; (apply V.elem (j := j); (iterate 6 rfl); omega; exact hg.at_ (by omega))) | (apply TL.val; rfl; rfl; (apply V.load_H_row; rfl; rfl; rfl; exact hrow; rfl)) | (apply TL.x; rfl; rfl; (apply X.alloc (d := 25); rfl; rfl; rfl); intro b25 _) | (apply TL.x; rfl; rfl; (apply X.storeTo 0 (enc y); (iterate 10 rfl)); intro _ _) | (apply TL.val; rfl; rfl; (first | exact vpure | exact vread)) | (apply TL.x; rfl; rfl; (first | exact xgrow | exact xput); intro _ _)))
      all_goals (try contradiction)
      all_goals (try (exfalso; omega))
      all_goals first
        | (refine N.round (v23, j + 1) (by show j + 1 ≤ _; omega) (by show l.len - (j + 1) < l.len - j; omega) (by (repeat (first | exact True.intro | refine ⟨rfl, ?_⟩ | refine Sub.int rfl (by omega) ?_))) rfl ?_
           simp only [hup]
           (repeat (first | exact List.Sublist.refl _ | exact List.nil_sublist _ | apply List.Sublist.cons_cons | apply List.Sublist.cons)))
        | trace_state
  have hje : j = l.len := by omega
  subst hje
  rw [List.take_of_length_le (by omega)]
  refine T.frzRow 0 (els := pubZ l.els u) rfl rfl rfl (fun z hz => ?_) fun H4 zs e1 e2 e4 hle4 => ?_
  · obtain ⟨v, hvm, rfl⟩ := pubZ_mem hz
    exact (hg.els v hvm).2
  subst e1
  have hR := Rules.mono hle4 hR
  have hsg := Enc.mono hle4 hsg
  have hzl := e4.len
  rw [e2] at hzl
  simp only [List.eraseIdx_cons_zero]
  cases hnk : newK (atsOf l.els) u with
  | none =>
    have hz0 : zs.len = 0 := by rw [← hzl, pub_none hv hnk]; rfl
    have hsec := hskip hnk
    repeat (any_goals (first | refine T.seq ?_ | refine T.region ?_ | refine TL.nil ?_ | refine N.next ?_ | refine N.exit_same ?_ | refine N.exit_then ?_ | refine T.skip ?_ | refine T.exit ?_ | refine T.block ?_ | (apply T.test; rfl; (exact isx); intro _; rotate_left; intro _; rotate_right) | (apply TL.val; rfl; rfl; (first | exact vpure | exact vread))))
    all_goals (try contradiction)
    all_goals (try (exfalso; omega))
    all_goals first
      | exact N.round (H4, s, k + 1) ⟨by show k + 1 ≤ _; omega, hle3.trans hle4, hsg, hsec⟩ (by show ts.len - (k + 1) < ts.len - k; omega) (by (repeat (first | exact True.intro | refine ⟨rfl, ?_⟩ | refine Sub.int rfl (by omega) ?_))) rfl (by exact List.Sublist.refl _)
      | trace_state
  | some v =>
    have hpub := pub_some hv hnk
    have hpl2 := hpub.len
    have hlt4 : 0 < zs.len := by omega
    have hvl := hpub.lt
    have hu0 := hpub.u0
    have hu1 : u ≤ 10000000 := by omega
    have hzok : ZonesOK zs.els := by rw [e2]; exact hpub.zones
    have hzn : zs.els.length = v + 1 := by rw [e2]; exact hpl2
    have hlast : ∀ z : ZoneV, (∃ h : zs.len - 1 < zs.els.length, z.c = zs.els[zs.len - 1].c) → z.c = (l.els[v]'hvl).zone.c := fun z ⟨h, hz⟩ => by
      have e5 : zs.len - 1 = v := by omega
      have h2 : (zs.els[zs.len - 1]'h).c = (l.els[v]'hvl).zone.c := by
        simp only [e5]
        have h3 := hpub.get v (by omega) hvl
        rw [List.getElem_of_eq e2 (by omega), h3]
      rw [hz, h2]
    have hpull := hpull v
    cases hpk : pullsK (atsOf l.els) (ts.els.take k) with
    | none =>
      have hsn := hsec.no hpk
      subst hsn
      repeat (any_goals (first | refine T.seq ?_ | refine T.region ?_ | refine TL.nil ?_ | refine N.next ?_ | refine N.inBlock ?_ | refine N.exit_same ?_ | refine N.exit_then ?_ | refine T.skip ?_ | refine T.exit ?_ | refine T.block ?_ | (apply T.cond_false; rfl) | (apply T.test; rfl; (exact isx); intro _; rotate_left; intro _; rotate_right) | (apply TL.x; rfl; rfl; (apply X.callFE (f := 8) [.agg (enc SecV.nil).toArray, zs.v, intV u] Tryz.call8; rfl; rfl; rfl; exact (fun _ hs => c_PullNew zs u hzok hlt4 ⟨hu0, hu1⟩ hs.sat hR e4)); rintro ⟨H5, z⟩ ⟨⟨hzc, hzg⟩, hle5⟩; dsimp only at hzc hzg hle5 ⊢) | (apply TL.x; rfl; rfl; (apply X.alloc (d := 26); rfl; rfl; rfl); intro b26 _) | (apply TL.x; rfl; rfl; (apply X.storeTo 0 (enc (⟨true, z, u⟩ : SecV)); (iterate 10 rfl)); intro _ _) | (apply TL.x; rfl; rfl; (apply X.storeTo 1 (enc (⟨true, z, u⟩ : SecV)); (iterate 10 rfl)); intro _ _) | (apply TL.val; rfl; rfl; (first | exact vpure | exact vread))))
      all_goals (try contradiction)
      all_goals (try (exfalso; omega))
      all_goals first
        | exact N.round (H5, ⟨true, z, u⟩, k + 1) ⟨by show k + 1 ≤ _; omega, (hle3.trans hle4).trans hle5, ⟨hzg, by show I64 u; unfold I64; omega⟩, hpull _ hnk rfl ⟨hvl, hlast z hzc⟩ rfl⟩ (by show ts.len - (k + 1) < ts.len - k; omega) (by (repeat (first | exact True.intro | refine ⟨rfl, ?_⟩ | refine Sub.int rfl (by omega) ?_))) rfl (by exact List.sublist_cons_self _ _)
        | trace_state
    | some v0 =>
      obtain ⟨y1, ⟨y2, y3⟩, y4, j0, y5, y6, y7⟩ := hsec.yes v0 hpk
      have hs0 : 0 ≤ s.seen := (pub_some hv y4).u0
      have hsu : s.seen ≤ u := by rw [y7]; exact hseen j0 y5 y6
      obtain ⟨v2, y8, y9⟩ := newK_mono hsu y4
      have hv02 : v0 ≤ v := by rw [hnk] at y8; injection y8 with y8; omega
      have hk0 : v0 < zs.els.length := by omega
      have hsz : s.zone.c = (zs.els[v0]'hk0).c := by
        rw [y3, List.getElem_of_eq e2 hk0, hpub.get v0 (by omega) y2]
      repeat (any_goals (first | refine T.seq ?_ | refine T.region ?_ | refine TL.nil ?_ | refine N.next ?_ | refine N.inBlock ?_ | refine N.exit_same ?_ | refine N.exit_then ?_ | refine T.skip ?_ | refine T.exit ?_ | refine T.block ?_ | (apply T.cond_false; rfl) | (apply T.test; rfl; (exact isx); intro _; rotate_left; intro _; rotate_right) | (apply TL.x; rfl; rfl; (apply X.callFE (f := 8) [.agg (enc s).toArray, zs.v, intV u] Tryz.call8; rfl; rfl; rfl; exact (fun _ hs => c_PullMore zs v0 s u hzok hk0 y1 hsz hs0 hsu hu1 hs.sat hR e4 hsg)); rintro ⟨H5, z⟩ ⟨⟨hzc, hzg⟩, hle5⟩; dsimp only at hzc hzg hle5 ⊢) | (apply TL.x; rfl; rfl; (apply X.alloc (d := 26); rfl; rfl; rfl); intro b26 _) | (apply TL.x; rfl; rfl; (apply X.storeTo 0 (enc (⟨true, z, u⟩ : SecV)); (iterate 10 rfl)); intro _ _) | (apply TL.x; rfl; rfl; (apply X.storeTo 1 (enc (⟨true, z, u⟩ : SecV)); (iterate 10 rfl)); intro _ _) | (apply TL.val; rfl; rfl; (first | exact vpure | exact vread))))
      all_goals (try contradiction)
      all_goals (try (exfalso; omega))
      all_goals first
        | exact N.round (H5, ⟨true, z, u⟩, k + 1) ⟨by show k + 1 ≤ _; omega, (hle3.trans hle4).trans hle5, ⟨hzg, by show I64 u; unfold I64; omega⟩, hpull _ hnk rfl ⟨hvl, hlast z hzc⟩ rfl⟩ (by show ts.len - (k + 1) < ts.len - k; omega) (by (repeat (first | exact True.intro | refine ⟨rfl, ?_⟩ | refine Sub.int rfl (by omega) ?_))) rfl (by exact List.sublist_cons_self _ _)
        | trace_state
end
end Go.Proofs.YthabgdbhgcgemaaGreatDoor
