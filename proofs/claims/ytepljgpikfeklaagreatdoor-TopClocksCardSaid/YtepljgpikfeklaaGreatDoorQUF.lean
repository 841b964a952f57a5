import Derived.Test.YtepljgpikfeklaaGreatDoorQUE
namespace Go.Proofs.YtepljgpikfeklaaGreatDoor
set_option linter.unusedVariables false
set_option linter.unusedSimpArgs false
open Go Go.RowKit
open Enc (enc)
set_option maxRecDepth 20000
def r7first (n : Int) : List SignedC := [⟨⟨[120], 2, 0, [⟨[97, 46, 110, 115], 0, 0⟩]⟩, []⟩, ⟨⟨[120], 4, 0, [⟨[], n, 0⟩]⟩, []⟩]
def r7zone (n : Int) (l : List Int) : ZoneC := ⟨[120], r7first n ++ if l = [] then [] else [⟨⟨[119, 46, 120], 1, 0, l.map fun a => ⟨[], a, 0⟩⟩, []⟩]⟩
set_option maxHeartbeats 4000000 in
theorem c_r7Zone (n : Int) (l : Slc Int) (hn : I64 n) (hl : l.len ≤ 100) {H : Hp} {w : World} (hs : Sat H w) (hg : l.Good H) : Calls Tryz.prog 14 #[intV n, l.v] w (RetF w H (fun p : Hp × ZoneV => p.2.c = r7zone n l.els ∧ Enc.good p.1 p.2) (fun p => .agg (enc p.2).toArray) (fun p => p.1)) := by
  have hlen := hg.len
  refine T.enter (vs := [intV n, l.v]) (H := H) Tryz.func14 rfl rfl rfl hs ?_
  repeat (any_goals (first | refine T.seq ?_ | refine T.region ?_ | refine TL.nil ?_ | refine N.next ?_ | refine T.block ?_ | (apply TL.x; rfl; rfl; (apply X.alloc (d := 4); rfl; rfl; rfl); intro b4 _) | (apply TL.x; rfl; rfl; (apply X.alloc (d := 5); rfl; rfl; rfl); intro b5 _) | (apply TL.val; rfl; rfl; (apply V.build; (iterate 6 rfl))) | (apply TL.x; rfl; rfl; (apply X.buildSlice1 (d := 13); (iterate 8 rfl)); intro b13 _; apply TL.frzBlk 0 (α := Datum) (els := [(⟨[97, 46, 110, 115], 0, 0⟩ : Datum)]) (m := 1) rfl rfl rfl (by decide) (by intro x hx; rw [List.mem_singleton.1 hx]; exact ⟨by decide, by decide, by decide⟩); intro H1 g13 hle1; have hg := hg.mono hle1) | (apply TL.x; rfl; rfl; (apply X.buildSlice1 (d := 17); (iterate 8 rfl)); intro b17 _; apply TL.frzBlk 0 (α := Datum) (els := [(⟨[], n, 0⟩ : Datum)]) (m := 1) rfl rfl rfl (by decide) (by intro x hx; rw [List.mem_singleton.1 hx]; exact ⟨show LenOk ([] : Bytes) by decide, hn, show I64 0 by decide⟩); intro H2 g17 hle2; have hg := hg.mono hle2; have g13 := g13.mono hle2) | (apply TL.x; rfl; rfl; (apply X.buildParts (d := 19) (enc (⟨[120], 2, 0, ⟨some ⟨b13, 0, none⟩, 1, 1, [⟨[97, 46, 110, 115], 0, 0⟩]⟩⟩ : RSet) ++ enc (⟨[120], 4, 0, ⟨some ⟨b17, 0, none⟩, 1, 1, [⟨[], n, 0⟩]⟩⟩ : RSet)); (iterate 11 rfl)); intro b19 _; apply TL.frzBlk 0 (α := RSet) (els := [(⟨[120], 2, 0, ⟨some ⟨b13, 0, none⟩, 1, 1, [⟨[97, 46, 110, 115], 0, 0⟩]⟩⟩ : RSet), (⟨[120], 4, 0, ⟨some ⟨b17, 0, none⟩, 1, 1, [⟨[], n, 0⟩]⟩⟩ : RSet)]) (m := 2) rfl rfl rfl (by decide) (by intro x hx; rcases List.mem_cons.1 hx with rfl | hx; exact ⟨show LenOk ([120] : Bytes) by decide, show I64 2 by decide, show I64 0 by decide, g13⟩; rw [List.mem_singleton.1 hx]; exact ⟨show LenOk ([120] : Bytes) by decide, show I64 4 by decide, show I64 0 by decide, g17⟩); intro H3 g19 hle3; have hg := hg.mono hle3) | (apply TL.val; rfl; rfl; (first | exact vpure | exact vread)) | (apply TL.x; rfl; rfl; (first | exact xgrow | exact xput); intro _ _)))
  obtain ⟨sl, hsl⟩ : ∃ sl : Slc RSet, (⟨some ⟨b19, 0, none⟩, 2, 2, [(⟨[120], 2, 0, ⟨some ⟨b13, 0, none⟩, 1, 1, [⟨[97, 46, 110, 115], 0, 0⟩]⟩⟩ : RSet), (⟨[120], 4, 0, ⟨some ⟨b17, 0, none⟩, 1, 1, [⟨[], n, 0⟩]⟩⟩ : RSet)]⟩ : Slc RSet) = sl := ⟨_, rfl⟩
  have hsv : Value.slice (some ⟨b19, 0, none⟩) 2 2 = sl.v := by rw [← hsl]
  have hs2 : sl.len = 2 := by rw [← hsl]
  have hsc : (sl.els.map fun x => (⟨x.c, []⟩ : SignedC)) = r7first n := by rw [← hsl]; rfl
  rw [hsl] at g19
  clear hsl
  rw [hsv]
  refine T.nilRow 44 5 ?_
  obtain ⟨sg, hsg⟩ : ∃ sg : List Signed, (sl.els.map fun x => (⟨x, Slc.nil _⟩ : Signed)) = sg := ⟨_, rfl⟩
  have hsgl : sg.length = 2 := by rw [← hsg, List.length_map, g19.len, hs2]
  refine T.loop (G := Value × Nat) (fun g => [(1, l.v), (4, .pointer (some ⟨b4, 0, none⟩)), (5, .pointer (some ⟨b5, 0, none⟩)), (19, sl.v), (20, intV 2), (21, intV g.2)]) (fun _ => H3) (fun g => [.row g.1 44 5 g.2 (encs (sg.take g.2)), .blk b5 36 [strV [120], g.1], .blk b4 36 [strV [], .slice none 0 0]]) (fun g => g.2 ≤ 2) (fun g => 2 - g.2) (.slice none 0 0, 0) (Nat.zero_le _) (by (repeat (first | exact True.intro | refine ⟨rfl, ?_⟩ | refine Sub.int rfl (by omega) ?_))) rfl (by (repeat (first | exact List.Sublist.refl _ | exact List.nil_sublist _ | apply List.Sublist.cons_cons | apply List.Sublist.cons))) ?_
  rintro ⟨v, k⟩ hk
  simp only at hk ⊢
  by_cases hlt : k < 2
  · have hkl : k < sl.els.length := by have := g19.len; omega
    have hrow := g19.row (k := k) (by omega)
    obtain ⟨x, hx⟩ : ∃ x, sl.els[k]'hkl = x := ⟨_, rfl⟩
    rw [hx] at hrow
    have hup : sg.take (k + 1) = sg.take k ++ [(⟨x, Slc.nil _⟩ : Signed)] := by
      rw [List.take_succ_eq_append_getElem (by omega)]
      congr 2
      simp only [← hsg, List.getElem_map, hx]
    repeat (any_goals (first | refine T.seq ?_ | refine T.region ?_ | refine TL.nil ?_ | refine N.next ?_ | refine N.inBlock ?_ | refine N.exit_same ?_ | refine N.exit_then ?_ | refine T.skip ?_ | refine T.exit ?_ | refine T.block ?_ | (apply T.test; rfl; (exact isx); intro _; rotate_left; intro _; rotate_right) | (apply TL.val; rfl; rfl; (apply V.elem (j := k); (iterate 6 rfl); omega; exact g19.at_ (by omega))) | (apply TL.val; rfl; rfl; (apply V.load_H_row; rfl; rfl; rfl; exact hrow; rfl)) | (apply TL.x; rfl; rfl; (apply X.alloc (d := 7); rfl; rfl; rfl); intro b7 _) | (apply TL.x; rfl; rfl; (apply X.storeTo 0 (enc x); (iterate 10 rfl)); intro _ _) | (apply TL.val; rfl; rfl; (apply V.build; (iterate 6 rfl))) | (apply TL.x; rfl; rfl; (apply X.buildSlice1 (d := 29); (iterate 8 rfl)); intro b29 _) | (apply TL.x; rfl; rfl; (apply X.append1 2; (iterate 9 rfl); exact List.Mem.head _; rfl; rfl; rfl; (refine Nat.le_trans (Nat.mul_le_mul_right _ (show _ ≤ 20001 by omega)) ?_; decide); omega); intro pa _) | (apply TL.x; rfl; rfl; (apply X.storeTo 3 [strV [120], .slice (some ⟨pa.1, 0, none⟩) (k + 1) pa.2]; (iterate 10 rfl)); intro _ _) | (apply TL.val; rfl; rfl; (first | exact vpure | exact vread)) | (apply TL.x; rfl; rfl; (first | exact xgrow | exact xput); intro _ _)))
    all_goals (try contradiction)
    all_goals (try (exfalso; omega))
    refine N.round (.slice (some ⟨pa.1, 0, none⟩) (k + 1) pa.2, k + 1) (by show k + 1 ≤ _; omega) (by show 2 - (k + 1) < 2 - k; omega) (by (repeat (first | exact True.intro | refine ⟨rfl, ?_⟩ | refine Sub.int rfl (by omega) ?_))) rfl ?_
    show List.Sublist [Loc.row (.slice (some ⟨pa.1, 0, none⟩) (k + 1) pa.2) 44 5 (k + 1) (encs (sg.take (k + 1))), .blk b5 36 [strV [120], .slice (some ⟨pa.1, 0, none⟩) (k + 1) pa.2], .blk b4 36 [strV [], .slice none 0 0]] _
    rw [hup, encs_snoc]
    exact .cons _ (.cons _ (List.Sublist.refl _))
  · have hke : k = 2 := by omega
    subst hke
    have htk : sg.take 2 = sg := List.take_of_length_le (by omega)
    rw [htk]
    have hsgood : ∀ y ∈ sg, Enc.good H3 y := fun y hy => by
      rw [← hsg] at hy
      obtain ⟨x, hx, rfl⟩ := List.mem_map.1 hy
      exact ⟨g19.els x hx, Slc.nil_good⟩
    have hsgc : sg.map Signed.c = r7first n := by rw [← hsg, List.map_map, ← hsc]; rfl
    by_cases h0 : l.len = 0
    · have hnil : l.els = [] := List.length_eq_zero_iff.1 (by omega)
      refine T.frzRow 0 (v := v) (e := 44) (size := 5) (els := sg) (m := 2) rfl rfl hsgl hsgood ?_
      intro H4 sf e1 e2 e3 hle4
      subst e1
      repeat (any_goals (first | refine T.seq ?_ | refine T.region ?_ | refine TL.nil ?_ | refine N.next ?_ | refine N.exit_same ?_ | refine N.exit_then ?_ | refine T.ret ?_ | refine T.skip ?_ | refine T.exit ?_ | (apply T.cond_false; rfl) | (apply T.test; rfl; (exact isx); intro _; rotate_left; intro _; rotate_right) | (apply TL.x; rfl; rfl; (apply X.storeTo 1 (enc (⟨[120], sf⟩ : ZoneV)); (iterate 10 rfl)); intro _ _) | (apply TL.val; rfl; rfl; (first | exact vpure | exact vread))))
      all_goals (try contradiction)
      all_goals (try (exfalso; omega))
      refine N.ret1 rfl (by (exact rvx)) fun w1 hst => ⟨(H4, ⟨[120], sf⟩), ⟨?_, ⟨show LenOk ([120] : Bytes) by decide, e3⟩⟩, rfl, hst.fresh⟩
      show (⟨[120], sf.els.map Signed.c⟩ : ZoneC) = _
      unfold r7zone
      rw [e2, hsgc, if_pos hnil, List.append_nil]
    · repeat (any_goals (first | refine T.seq ?_ | refine T.region ?_ | refine TL.nil ?_ | refine N.next ?_ | refine N.exit_same ?_ | refine N.exit_then ?_ | refine T.skip ?_ | refine T.exit ?_ | refine T.block ?_ | (apply T.cond_false; rfl) | (apply T.test; rfl; (exact isx); intro _; rotate_left; intro _; rotate_right) | (apply TL.x; rfl; rfl; (apply X.alloc (d := 8); rfl; rfl; rfl); intro b8 _) | (apply TL.val; rfl; rfl; (apply V.build; (iterate 6 rfl))) | (apply TL.val; rfl; rfl; (first | exact vpure | exact vread)) | (apply TL.x; rfl; rfl; (first | exact xgrow | exact xput); intro _ _)))
      all_goals (try contradiction)
      all_goals (try (exfalso; omega))
      obtain ⟨ds, hds⟩ : ∃ ds : List Datum, (l.els.map fun a => (⟨[], a, 0⟩ : Datum)) = ds := ⟨_, rfl⟩
      have hdl : ds.length = l.len := by rw [← hds, List.length_map, hlen]
      refine T.nilRow 101 3 ?_
      refine T.loop (G := Value × Nat) (fun g => [(4, .pointer (some ⟨b4, 0, none⟩)), (5, .pointer (some ⟨b5, 0, none⟩)), (8, .pointer (some ⟨b8, 0, none⟩)), (37, l.v), (38, intV l.len), (39, intV g.2)]) (fun _ => H3) (fun g => [.row g.1 101 3 g.2 (encs (ds.take g.2)), .blk b8 26 [strV [119, 46, 120], intV 1, intV 0, g.1], .row v 44 5 2 (encs sg), .blk b5 36 [strV [120], v], .blk b4 36 [strV [], .slice none 0 0]]) (fun g => g.2 ≤ l.len) (fun g => l.len - g.2) (.slice none 0 0, 0) (Nat.zero_le _) (by (repeat (first | exact True.intro | refine ⟨rfl, ?_⟩ | refine Sub.int rfl (by omega) ?_))) rfl (by (repeat (first | exact List.Sublist.refl _ | exact List.nil_sublist _ | apply List.Sublist.cons_cons | apply List.Sublist.cons))) ?_
      rintro ⟨v2, k⟩ hk
      simp only at hk ⊢
      by_cases hlt : k < l.len
      · have hkl : k < l.els.length := by omega
        obtain ⟨x, hx⟩ : ∃ x, l.els[k]'hkl = x := ⟨_, rfl⟩
        have hcell : H3.cell l.b (l.o + k * 1 + 0) = some (intV x) := by rw [← hx]; exact hg.cell (k := k) (j := 0) hlt rfl
        have hup : ds.take (k + 1) = ds.take k ++ [(⟨[], x, 0⟩ : Datum)] := by
          rw [List.take_succ_eq_append_getElem (by omega)]
          congr 2
          simp only [← hds, List.getElem_map, hx]
        repeat (any_goals (first | refine T.seq ?_ | refine T.region ?_ | refine TL.nil ?_ | refine N.next ?_ | refine N.inBlock ?_ | refine N.exit_same ?_ | refine N.exit_then ?_ | refine T.skip ?_ | refine T.exit ?_ | refine T.block ?_ | (apply T.test; rfl; (exact isx); intro _; rotate_left; intro _; rotate_right) | (apply TL.val; rfl; rfl; (apply V.elem (j := k); (iterate 6 rfl); omega; exact hg.at_ (by omega))) | (apply TL.val; rfl; rfl; (apply V.load_H; rfl; rfl; rfl; exact hcell)) | (apply TL.val; rfl; rfl; (apply V.build; (iterate 6 rfl))) | (apply TL.x; rfl; rfl; (apply X.buildSlice1 (d := 47); (iterate 8 rfl)); intro b47 _) | (apply TL.x; rfl; rfl; (apply X.append1 1; (iterate 9 rfl); exact List.Mem.head _; rfl; rfl; rfl; (refine Nat.le_trans (Nat.mul_le_mul_right _ (show _ ≤ 20001 by omega)) ?_; decide); omega); intro pa _) | (apply TL.x; rfl; rfl; (apply X.storeTo 2 [strV [119, 46, 120], intV 1, intV 0, .slice (some ⟨pa.1, 0, none⟩) (k + 1) pa.2]; (iterate 10 rfl)); intro _ _) | (apply TL.val; rfl; rfl; (first | exact vpure | exact vread)) | (apply TL.x; rfl; rfl; (first | exact xgrow | exact xput); intro _ _)))
        all_goals (try contradiction)
        all_goals (try (exfalso; omega))
        refine N.round (.slice (some ⟨pa.1, 0, none⟩) (k + 1) pa.2, k + 1) (by show k + 1 ≤ _; omega) (by show l.len - (k + 1) < l.len - k; omega) (by (repeat (first | exact True.intro | refine ⟨rfl, ?_⟩ | refine Sub.int rfl (by omega) ?_))) rfl ?_
        show List.Sublist [Loc.row (.slice (some ⟨pa.1, 0, none⟩) (k + 1) pa.2) 101 3 (k + 1) (encs (ds.take (k + 1))), .blk b8 26 [strV [119, 46, 120], intV 1, intV 0, .slice (some ⟨pa.1, 0, none⟩) (k + 1) pa.2], .row v 44 5 2 (encs sg), .blk b5 36 [strV [120], v], .blk b4 36 [strV [], .slice none 0 0]] _
        rw [hup, encs_snoc]
        exact .cons _ (List.Sublist.refl _)
      · have hke : k = l.len := by omega
        subst hke
        have htk : ds.take l.len = ds := List.take_of_length_le (by omega)
        rw [htk]
        refine T.frzRow 0 (v := v2) (e := 101) (size := 3) (els := ds) (m := l.len) rfl rfl hdl (fun y hy => ?_) ?_
        · rw [← hds] at hy
          obtain ⟨a, ha, rfl⟩ := List.mem_map.1 hy
          exact ⟨show LenOk ([] : Bytes) by decide, hg.els a ha, show I64 0 by decide⟩
        intro H4 sd e1 e2 e3 hle4
        subst e1
        have hx3 : Enc.good H4 (⟨⟨[119, 46, 120], 1, 0, sd⟩, Slc.nil _⟩ : Signed) := ⟨⟨show LenOk ([119, 46, 120] : Bytes) by decide, show I64 1 by decide, show I64 0 by decide, e3⟩, Slc.nil_good⟩
        repeat (any_goals (first | refine T.seq ?_ | refine T.region ?_ | refine TL.nil ?_ | refine N.next ?_ | refine N.exit_same ?_ | refine N.exit_then ?_ | refine T.ret ?_ | refine T.skip ?_ | refine T.exit ?_ | refine T.block ?_ | (apply T.test; rfl; (exact isx); intro _; rotate_left; intro _; rotate_right) | (apply TL.val; rfl; rfl; (apply V.build; (iterate 6 rfl))) | (apply TL.x; rfl; rfl; (apply X.buildSlice1 (d := 55); (iterate 8 rfl)); intro b55 _) | (apply TL.x; rfl; rfl; (apply X.append1 2; (iterate 9 rfl); exact List.Mem.head _; rfl; rfl; rfl; decide; decide); intro pa _) | (apply TL.x; rfl; rfl; (apply X.storeTo 3 [strV [120], .slice (some ⟨pa.1, 0, none⟩) (2 + 1) pa.2]; (iterate 10 rfl)); intro _ _; apply TL.frzRowE 2 (sg ++ [(⟨⟨[119, 46, 120], 1, 0, sd⟩, Slc.nil _⟩ : Signed)]); rfl; rfl; exact (encs_snoc sg (⟨⟨[119, 46, 120], 1, 0, sd⟩, Slc.nil _⟩ : Signed)).symm; (rw [List.length_append, hsgl]; rfl); (intro y hy; rcases List.mem_append.1 hy with hy | hy; exact Enc.mono hle4 (hsgood y hy); (rw [List.mem_singleton.1 hy]; exact hx3)); rintro H5 ⟨A2, n2, c2, els2⟩ e1 e4 hgs hle5; injection e1 with e11 e12 e13; subst e11 e12 e13; simp only at e4; subst e4) | (apply TL.x; rfl; rfl; (apply X.storeTo 3 (enc (⟨[120], ⟨some ⟨pa.1, 0, none⟩, 2 + 1, pa.2, sg ++ [(⟨⟨[119, 46, 120], 1, 0, sd⟩, Slc.nil _⟩ : Signed)]⟩⟩ : ZoneV)); (iterate 10 rfl)); intro _ _) | (apply TL.val; rfl; rfl; (first | exact vpure | exact vread)) | (apply TL.x; rfl; rfl; (first | exact xgrow | exact xput); intro _ _)))
        all_goals (try contradiction)
        all_goals (try (exfalso; omega))
        refine N.ret1 rfl (by (exact rvx)) fun w1 hst => ⟨(H5, (⟨[120], ⟨some ⟨pa.1, 0, none⟩, 2 + 1, pa.2, sg ++ [(⟨⟨[119, 46, 120], 1, 0, sd⟩, Slc.nil _⟩ : Signed)]⟩⟩ : ZoneV)), ⟨?_, ⟨show LenOk ([120] : Bytes) by decide, hgs⟩⟩, rfl, hst.fresh⟩
        show (⟨[120], (sg ++ [(⟨⟨[119, 46, 120], 1, 0, sd⟩, Slc.nil _⟩ : Signed)]).map Signed.c⟩ : ZoneC) = _
        unfold r7zone
        have hne : l.els ≠ [] := fun e => h0 (by rw [← hlen, e]; rfl)
        rw [List.map_append, hsgc, if_neg hne]
        show (⟨[120], r7first n ++ [⟨⟨[119, 46, 120], 1, 0, sd.els⟩, []⟩]⟩ : ZoneC) = _
        rw [e2, ← hds]
end Go.Proofs.YtepljgpikfeklaaGreatDoor
