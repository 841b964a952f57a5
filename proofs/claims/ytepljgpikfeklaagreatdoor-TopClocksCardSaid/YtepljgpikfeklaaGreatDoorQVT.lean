import Derived.Test.YtepljgpikfeklaaGreatDoorQVR
namespace Go.Proofs.YtepljgpikfeklaaGreatDoor
set_option linter.unusedVariables false
set_option linter.unusedSimpArgs false
open Go Go.RowKit
open Enc (enc)
set_option maxRecDepth 20000
def LL0 (b : Nat) : Value → Value → Value → Bytes → List Loc := fun p v u l => [byR 5 u l, .blk b 150 [p, v]]
theorem B0 (b : Nat) : BL b (LL0 b) 1 0 := ⟨fun _ _ _ _ => rfl, fun _ _ _ _ => rfl, fun _ _ _ _ _ _ => rfl, fun _ _ _ _ _ _ => rfl⟩
theorem datumT_len {d : Datum} (h : d.text.length ≤ 1000) (h1 : I64 d.n) (h2 : I64 d.m) : (datumT d).length ≤ 1100 := by
  have a := numF_len h1
  have b := numF_len h2
  unfold datumT fldB
  simp only [List.length_append, List.length_cons, List.length_nil]
  omega
theorem decF_len {u : Int} (h1 : u < 18446744073709551616) : (Lib.decDigits u.toNat).length ≤ 20 := by
  rw [Lib.decDigits_length]
  exact Lib.nDigits_le20 _ (by omega)
theorem sigT_len {g : Sig} (h : g.zone.length ≤ 1000) (hg : Enc.good (fun _ => none) g) : (sigT g).length ≤ 1200 := by
  obtain ⟨_, h1, h2, h3, h4, h5, h6⟩ := hg
  have a := numF_len h1
  have b := numF_len h2
  have c := numF_len h3
  have d := numF_len h4
  have e := decF_len h6
  unfold sigT fldB
  simp only [List.length_append, List.length_cons, List.length_nil]
  omega
theorem headT_ne (s : SignedC) (x : Bytes) : headT s ++ x ≠ [] := fun e => by
  have := congrArg List.length e
  unfold headT fldB at this
  simp at this
set_option maxHeartbeats 8000000 in
theorem c_textHolds (s : Signed) (hin : TextIn s.c) {H : Hp} {w : World} (hs : Sat H w) (hT : Pow10 H) (hgd : Enc.good H s) : Calls Tryz.prog 36 #[.agg (enc s).toArray] w (Ret w (strV (textC s.c))) := by
  obtain ⟨⟨g1, g2, g3, g4⟩, g5⟩ := hgd
  have hl4 := g4.len
  have hm4 := g4.lim
  have hl5 := g5.len
  have hm5 := g5.lim
  have i1 : s.set.name.length ≤ 1000 := hin.name
  have i2 : s.set.data.els.length ≤ 1000 := hin.data
  have i3 : ∀ d ∈ s.set.data.els, d.text.length ≤ 1000 := hin.text
  have i4 : s.sigs.els.length ≤ 1000 := hin.sigs
  have i5 : ∀ g ∈ s.sigs.els, g.zone.length ≤ 1000 := hin.zone
  have hlI : I64 (s.set.data.len : Int) := ⟨by omega, by omega⟩
  have q1 := numF_len g2
  have q2 := numF_len g3
  have q3 := numF_len hlI
  have q0 : (fldB s.set.name).length ≤ 1001 := by unfold fldB; rw [List.length_append, List.length_cons, List.length_nil]; omega
  have hhd : [] ++ fldB s.set.name ++ numF s.set.typ ++ numF s.set.life ++ numF s.set.data.len = headT s.c := by
    show _ = fldB s.set.name ++ numF s.set.typ ++ numF s.set.life ++ numF (s.set.data.els.length : Int)
    rw [hl4]; rfl
  have hhl : (headT s.c).length ≤ 1100 := by
    rw [← hhd]
    simp only [List.length_append, List.length_nil]
    omega
  have hdl : ∀ k, ((s.set.data.els.take k).flatMap datumT).length ≤ 1100000 := fun k => by
    have h1 := flat_len (f := datumT) (c := 1100) (l := s.set.data.els.take k) fun x hx => datumT_len (i3 x (List.mem_of_mem_take hx)) (g4.els x (List.mem_of_mem_take hx)).2.1 (g4.els x (List.mem_of_mem_take hx)).2.2
    have h2 : (s.set.data.els.take k).length ≤ 1000 := by rw [List.length_take]; omega
    omega
  have hsl : ∀ k, ((s.sigs.els.take k).flatMap sigT).length ≤ 1200000 := fun k => by
    have h1 := flat_len (f := sigT) (c := 1200) (l := s.sigs.els.take k) fun x hx => sigT_len (i5 x (List.mem_of_mem_take hx)) (g5.els x (List.mem_of_mem_take hx))
    have h2 : (s.sigs.els.take k).length ≤ 1000 := by rw [List.length_take]; omega
    omega
  refine T.enter (vs := [.agg (enc s).toArray]) (H := H) Tryz.func36 rfl rfl rfl hs ?_
  repeat (any_goals (first | refine T.seq ?_ | refine T.region ?_ | refine TL.nil ?_ | refine N.next ?_ | refine T.block ?_ | (apply TL.x; rfl; rfl; (apply X.box (d := 1); rfl; rfl; rfl); intro b1 _; apply TL.frzZ 0; rfl; intro H1 z1 hle1; have g4 := g4.mono hle1; have g5 := g5.mono hle1; have hT := Pow10.mono hle1 hT) | (apply TL.val; rfl; rfl; (apply V.load_H; rfl; rfl; rfl; first | exact z1 0 _ rfl | exact z1 1 _ rfl | exact z1 2 _ rfl | exact z1 3 _ rfl | exact z1 4 _ rfl)) | (apply TL.x; rfl; rfl; (apply X.alloc (d := 3); rfl; rfl; rfl); intro b3 _; apply TL.nilRow 5 1) | (apply TL.val; rfl; rfl; ((apply V.makeFunc (vs := []) (us := [bptr b3]) <;> rfl))) | (apply TL.x; rfl; rfl; (apply X.alloc (d := 4); rfl; rfl; rfl); intro b4 _) | (apply TL.x; rfl; rfl; (apply X.storeTo 0 [.func (.func 76) #[] #[bptr b3]]; (iterate 10 rfl)); intro _ _; apply TL.frzZ 0; rfl; intro H2 z4 hle2; have g4 := g4.mono hle2; have g5 := g5.mono hle2; have hT := Pow10.mono hle2 hT; have z1 := Hp.cells_le hle2 z1) | (apply TL.val; rfl; rfl; ((apply V.makeFunc (vs := []) (us := [.pointer (some ⟨b4, 0, none⟩)]) <;> rfl))) | (apply TL.val; rfl; rfl; (apply V.load_H; rfl; rfl; rfl; exact z4 0 _ rfl)) | (apply TL.x; rfl; rfl; (apply X.callB [strV s.set.name, bptr b3] (f := 76); (iterate 4 rfl); exact Tryz.call76; exact fun _ hs => c_word (B0 b3) s.set.name (p := .pointer none) (v := .slice none 0 0) (l := []) (.inl rfl) (by show 0 + _ ≤ _; omega) hs); intro v1 _) | (apply TL.x; rfl; rfl; (apply X.callB [intV s.set.typ, .pointer (some ⟨b4, 0, none⟩)] (f := 79); (iterate 4 rfl); exact Tryz.call79; exact fun _ hs => c_number (B0 b3) s.set.typ g2 z4 hT (.inr rfl) (by simp only [List.length_append, List.length_nil]; omega) hs); intro v2 _) | (apply TL.x; rfl; rfl; (apply X.callB [intV s.set.life, .pointer (some ⟨b4, 0, none⟩)] (f := 79); (iterate 4 rfl); exact Tryz.call79; exact fun _ hs => c_number (B0 b3) s.set.life g3 z4 hT (.inr rfl) (by simp only [List.length_append, List.length_nil]; omega) hs); intro v3 _) | (apply TL.x; rfl; rfl; (apply X.callB [intV s.set.data.len, .pointer (some ⟨b4, 0, none⟩)] (f := 79); (iterate 4 rfl); exact Tryz.call79; exact fun _ hs => c_number (B0 b3) s.set.data.len hlI z4 hT (.inr rfl) (by simp only [List.length_append, List.length_nil]; omega) hs); intro v4 _) | (apply TL.val; rfl; rfl; (first | exact vpure | exact vread))))
  all_goals (try contradiction)
  rw [hhd]
  refine T.loop (G := Value × Nat) (fun g => [(1, .pointer (some ⟨b1, 0, none⟩)), (3, bptr b3), (4, .pointer (some ⟨b4, 0, none⟩)), (5, .func (.func 79) #[] #[.pointer (some ⟨b4, 0, none⟩)]), (35, s.set.data.v), (36, intV s.set.data.len), (37, intV g.2)]) (fun _ => H2) (fun g => LL0 b3 (bptr b3) g.1 g.1 (headT s.c ++ (s.set.data.els.take g.2).flatMap datumT)) (fun g => g.2 ≤ s.set.data.len) (fun g => s.set.data.len - g.2) (v4, 0) (Nat.zero_le _) (by (repeat (first | exact True.intro | refine ⟨rfl, ?_⟩ | refine Sub.int rfl (by omega) ?_))) rfl (by rw [List.take_zero, List.flatMap_nil, List.append_nil]; exact List.Sublist.refl _) ?_
  rintro ⟨v5, k⟩ hk
  simp only at hk ⊢
  have hdk := hdl k
  by_cases hlt : k < s.set.data.len
  · have hkl : k < s.set.data.els.length := by omega
    have hrow := g4.row (k := k) hlt
    have hxg := g4.els _ (List.getElem_mem hkl)
    have hxt := i3 _ (List.getElem_mem hkl)
    have hnx := flat_next (f := datumT) hkl
    obtain ⟨x, hx⟩ : ∃ x, s.set.data.els[k]'hkl = x := ⟨_, rfl⟩
    rw [hx] at hxg hxt hnx
    try rw [hx] at hrow
    have e1 := numF_len hxg.2.1
    have e2 := numF_len hxg.2.2
    have e0 : (fldB x.text).length ≤ 1001 := by unfold fldB; rw [List.length_append, List.length_cons, List.length_nil]; omega
    repeat (any_goals (first | refine T.seq ?_ | refine T.region ?_ | refine TL.nil ?_ | refine N.next ?_ | refine N.inBlock ?_ | refine N.exit_same ?_ | refine N.exit_then ?_ | refine T.skip ?_ | refine T.exit ?_ | refine T.block ?_ | (apply T.test; rfl; (exact isx); intro _; rotate_left; intro _; rotate_right) | (apply TL.val; rfl; rfl; (apply V.load_H; rfl; rfl; rfl; exact z4 0 _ rfl)) | (apply TL.val; rfl; rfl; (apply V.elem (j := k); (iterate 6 rfl); omega; exact g4.at_ (by omega))) | (apply TL.val; rfl; rfl; (apply V.load_H_row; rfl; rfl; rfl; exact hrow; rfl)) | (apply TL.x; rfl; rfl; (apply X.alloc (d := 7); rfl; rfl; rfl); intro b7 _) | (apply TL.x; rfl; rfl; (apply X.storeTo 0 (enc x); (iterate 10 rfl)); intro _ _) | (apply TL.x; rfl; rfl; (apply X.callB [strV x.text, bptr b3] (f := 76); (iterate 4 rfl); exact Tryz.call76; exact fun _ hs => c_word ((B0 b3).cons _) x.text (.inr rfl) (by simp only [List.length_append]; omega) hs); intro w1 _) | (apply TL.x; rfl; rfl; (apply X.callB [intV x.n, .pointer (some ⟨b4, 0, none⟩)] (f := 79); (iterate 4 rfl); exact Tryz.call79; exact fun _ hs => c_number ((B0 b3).cons _) x.n hxg.2.1 z4 hT (.inr rfl) (by simp only [List.length_append]; omega) hs); intro w2 _) | (apply TL.x; rfl; rfl; (apply X.callB [intV x.m, .pointer (some ⟨b4, 0, none⟩)] (f := 79); (iterate 4 rfl); exact Tryz.call79; exact fun _ hs => c_number ((B0 b3).cons _) x.m hxg.2.2 z4 hT (.inr rfl) (by simp only [List.length_append]; omega) hs); intro w3 _) | (apply TL.val; rfl; rfl; (first | exact vpure | exact vread))))
    all_goals (try contradiction)
    all_goals (try (exfalso; omega))
    all_goals first
      | (refine N.round (w3, k + 1) (by show k + 1 ≤ _; omega) (by show s.set.data.len - (k + 1) < s.set.data.len - k; omega) (by (repeat (first | exact True.intro | refine ⟨rfl, ?_⟩ | refine Sub.int rfl (by omega) ?_))) rfl ?_
         have e : headT s.c ++ (s.set.data.els.take (k + 1)).flatMap datumT = headT s.c ++ (s.set.data.els.take k).flatMap datumT ++ fldB x.text ++ numF x.n ++ numF x.m := by
           rw [hnx]; unfold datumT; simp only [List.append_assoc]
         simp only [e]
         exact List.Sublist.cons _ (List.Sublist.refl _))
      | trace_state
  · have hke : k = s.set.data.len := by omega
    subst hke
    have hall : s.set.data.els.take s.set.data.len = s.set.data.els := List.take_of_length_le (by omega)
    rw [hall] at hdk ⊢
    obtain ⟨T1, hT1⟩ : ∃ T1, headT s.c ++ s.set.data.els.flatMap datumT = T1 := ⟨_, rfl⟩
    have hT1l : T1.length ≤ 1200000 := by rw [← hT1, List.length_append]; omega
    rw [hT1]
    repeat (any_goals (first | refine T.seq ?_ | refine T.region ?_ | refine TL.nil ?_ | refine N.next ?_ | refine N.exit_same ?_ | refine N.exit_then ?_ | refine T.skip ?_ | refine T.exit ?_ | refine T.block ?_ | (apply T.test; rfl; (exact isx); intro _; rotate_left; intro _; rotate_right) | (apply TL.val; rfl; rfl; (apply V.load_H; rfl; rfl; rfl; first | exact z1 0 _ rfl | exact z1 1 _ rfl | exact z1 2 _ rfl | exact z1 3 _ rfl | exact z1 4 _ rfl)) | (apply TL.val; rfl; rfl; (first | exact vpure | exact vread)) | (apply TL.x; rfl; rfl; (first | exact xgrow | exact xput); intro _ _)))
    all_goals (try contradiction)
    all_goals (try (exfalso; omega))
    refine T.loop (G := Value × Nat) (fun g => [(1, .pointer (some ⟨b1, 0, none⟩)), (3, bptr b3), (4, .pointer (some ⟨b4, 0, none⟩)), (5, .func (.func 79) #[] #[.pointer (some ⟨b4, 0, none⟩)]), (55, s.sigs.v), (56, intV s.sigs.len), (57, intV g.2)]) (fun _ => H2) (fun g => LL0 b3 (bptr b3) g.1 g.1 (T1 ++ (s.sigs.els.take g.2).flatMap sigT)) (fun g => g.2 ≤ s.sigs.len) (fun g => s.sigs.len - g.2) (v5, 0) (Nat.zero_le _) (by (repeat (first | exact True.intro | refine ⟨rfl, ?_⟩ | refine Sub.int rfl (by omega) ?_))) rfl (by rw [List.take_zero, List.flatMap_nil, List.append_nil]; exact List.Sublist.refl _) ?_
    rintro ⟨v6, k⟩ hk
    simp only at hk ⊢
    have hsk := hsl k
    by_cases hlt : k < s.sigs.len
    · have hkl : k < s.sigs.els.length := by omega
      have hrow := g5.row (k := k) hlt
      have hxg := g5.els _ (List.getElem_mem hkl)
      have hxt := i5 _ (List.getElem_mem hkl)
      have hnx := flat_next (f := sigT) hkl
      obtain ⟨x, hx⟩ : ∃ x, s.sigs.els[k]'hkl = x := ⟨_, rfl⟩
      rw [hx] at hxg hxt hnx
      try rw [hx] at hrow
      obtain ⟨_, y1, y2, y3, y4, y5, y6⟩ := hxg
      have e1 := numF_len y1
      have e2 := numF_len y2
      have e3 := numF_len y3
      have e4 := numF_len y4
      have e5 := decF_len y6
      have e0 : (fldB x.zone).length ≤ 1001 := by unfold fldB; rw [List.length_append, List.length_cons, List.length_nil]; omega
      obtain ⟨u, hu⟩ : ∃ u : Nat, x.sum = u := ⟨x.sum.toNat, by omega⟩
      have hut : x.sum.toNat = u := by omega
      rw [hut] at e5
      have hxe : enc x = [strV x.zone, intV x.key, intV x.alg, intV x.frm, intV x.til, .int .u64 u] := by rw [← hu]; rfl
      rw [hxe] at hrow
      repeat (any_goals (first | refine T.seq ?_ | refine T.region ?_ | (apply T.regionD wide; rfl) | refine TL.nil ?_ | refine N.next ?_ | refine N.inBlock ?_ | refine N.exit_same ?_ | refine N.exit_then ?_ | refine T.skip ?_ | refine T.exit ?_ | refine T.block ?_ | (apply T.test; rfl; (exact isx); intro _; rotate_left; intro _; rotate_right) | (apply TL.val; rfl; rfl; (apply V.load_H; rfl; rfl; rfl; exact z4 0 _ rfl)) | (apply GT.read; (iterate 4 rfl); (apply V.load_H; rfl; rfl; rfl; exact z4 0 _ rfl); decide +kernel) | (apply TL.val; rfl; rfl; (apply V.elem (j := k); (iterate 6 rfl); omega; exact g5.at_ (by omega))) | (apply TL.val; rfl; rfl; (apply V.load_H_row; rfl; rfl; rfl; exact hrow; rfl)) | (apply TL.x; rfl; rfl; (apply X.alloc (d := 9); rfl; rfl; rfl); intro b9 _) | (apply TL.x; rfl; rfl; (apply X.storeTo 0 [strV x.zone, intV x.key, intV x.alg, intV x.frm, intV x.til, .int .u64 u]; (iterate 10 rfl)); intro _ _) | (apply TL.x; rfl; rfl; (apply X.callB [strV x.zone, bptr b3] (f := 76); (iterate 4 rfl); exact Tryz.call76; exact fun _ hs => c_word ((B0 b3).cons _) x.zone (.inr rfl) (by simp only [List.length_append]; omega) hs); intro w1 _) | (apply TL.x; rfl; rfl; (apply X.callB [intV x.key, .pointer (some ⟨b4, 0, none⟩)] (f := 79); (iterate 4 rfl); exact Tryz.call79; exact fun _ hs => c_number ((B0 b3).cons _) x.key y1 z4 hT (.inr rfl) (by simp only [List.length_append]; omega) hs); intro w2 _) | (apply TL.x; rfl; rfl; (apply X.callB [intV x.alg, .pointer (some ⟨b4, 0, none⟩)] (f := 79); (iterate 4 rfl); exact Tryz.call79; exact fun _ hs => c_number ((B0 b3).cons _) x.alg y2 z4 hT (.inr rfl) (by simp only [List.length_append]; omega) hs); intro w3 _) | (apply TL.x; rfl; rfl; (apply X.callB [intV x.frm, .pointer (some ⟨b4, 0, none⟩)] (f := 79); (iterate 4 rfl); exact Tryz.call79; exact fun _ hs => c_number ((B0 b3).cons _) x.frm y3 z4 hT (.inr rfl) (by simp only [List.length_append]; omega) hs); intro w4 _) | (apply TL.x; rfl; rfl; (apply X.callB [intV x.til, .pointer (some ⟨b4, 0, none⟩)] (f := 79); (iterate 4 rfl); exact Tryz.call79; exact fun _ hs => c_number ((B0 b3).cons _) x.til y4 z4 hT (.inr rfl) (by simp only [List.length_append]; omega) hs); intro w5 _) | (apply GT.callE (f := 81) [.int .u64 u, intV 10] Tryz.call81; (iterate 6 rfl); (exact fun _ hs => c_FormatUint u (by omega) hs.sat hT); decide +kernel) | (apply GS.eff; rfl; decide +kernel; rfl; (apply X.callB [strV (Lib.decDigits u), bptr b3] (f := 76); (iterate 4 rfl); exact Tryz.call76; exact fun _ hs => c_word ((B0 b3).cons _) (Lib.decDigits u) (.inr rfl) (by simp only [List.length_append]; omega) hs); intro _ _) | (apply TL.val; rfl; rfl; (first | exact vpure | exact vread)) | (apply GT.pure; (iterate 4 rfl); (first | exact vpure); decide +kernel) | (apply GT.read; (iterate 4 rfl); (first | exact vpure | exact vread); decide +kernel) | (apply GT.done; decide +kernel; apply N.ofQ) | (apply GT.fork1; decide +kernel)))
      all_goals (try contradiction)
      all_goals (try (exfalso; omega))
      all_goals first
        | (rename_i w6 _
           refine N.round (w6, k + 1) (by show k + 1 ≤ _; omega) (by show s.sigs.len - (k + 1) < s.sigs.len - k; omega) (by (repeat (first | exact True.intro | refine ⟨rfl, ?_⟩ | refine Sub.int rfl (by omega) ?_))) rfl ?_
           have e : T1 ++ (s.sigs.els.take (k + 1)).flatMap sigT = T1 ++ (s.sigs.els.take k).flatMap sigT ++ fldB x.zone ++ numF x.key ++ numF x.alg ++ numF x.frm ++ numF x.til ++ fldB (Lib.decDigits u) := by
             rw [hnx]; unfold sigT; rw [hut]; simp only [List.append_assoc]
           simp only [e]
           exact List.Sublist.cons _ (List.Sublist.refl _))
        | trace_state
    · have hke : k = s.sigs.len := by omega
      subst hke
      have hall : s.sigs.els.take s.sigs.len = s.sigs.els := List.take_of_length_le (by omega)
      rw [hall] at hsk ⊢
      repeat (any_goals (first | refine T.seq ?_ | refine T.region ?_ | refine TL.nil ?_ | refine N.next ?_ | refine N.exit_same ?_ | refine N.exit_then ?_ | refine T.ret ?_ | refine T.skip ?_ | refine T.exit ?_ | refine T.block ?_ | (apply T.test; rfl; (exact isx); intro _; rotate_left; intro _; rotate_right) | (apply TL.x; rfl; rfl; (apply X.callB [bptr b3] (f := 82); (iterate 4 rfl); exact Tryz.call82; exact fun _ hs => c_BString (B0 b3) (by rw [← hT1, List.append_assoc]; exact headT_ne _ _) hs); intro _ _) | (apply TL.val; rfl; rfl; (first | exact vpure | exact vread)) | (apply TL.x; rfl; rfl; (first | exact xgrow | exact xput); intro _ _)))
      all_goals (try contradiction)
      all_goals (try (exfalso; omega))
      exact N.ret1 rfl (by (exact rvx)) fun w hst => ⟨by rw [← hT1]; rfl, hst.below⟩
end Go.Proofs.YtepljgpikfeklaaGreatDoor
namespace Go.Proofs.YtepljgpikfeklaaGreatDoor
set_option linter.unusedVariables false
set_option linter.unusedSimpArgs false
open Go Go.RowKit
open Enc (enc)
set_option maxRecDepth 20000
set_option maxHeartbeats 8000000 in
theorem c_textHist (s : Signed) (hin : TextIn s.c) {H : Hp} {w : World} (hs : Sat H w) (hT : Pow10 H) (hgd : Enc.good H s) : Calls Tryz.prog 129 #[.agg (enc s).toArray] w (Ret w (strV (textC s.c))) := by
  obtain ⟨⟨g1, g2, g3, g4⟩, g5⟩ := hgd
  have hl4 := g4.len
  have hm4 := g4.lim
  have hl5 := g5.len
  have hm5 := g5.lim
  have i1 : s.set.name.length ≤ 1000 := hin.name
  have i2 : s.set.data.els.length ≤ 1000 := hin.data
  have i3 : ∀ d ∈ s.set.data.els, d.text.length ≤ 1000 := hin.text
  have i4 : s.sigs.els.length ≤ 1000 := hin.sigs
  have i5 : ∀ g ∈ s.sigs.els, g.zone.length ≤ 1000 := hin.zone
  have hlI : I64 (s.set.data.len : Int) := ⟨by omega, by omega⟩
  have q1 := numF_len g2
  have q2 := numF_len g3
  have q3 := numF_len hlI
  have q0 : (fldB s.set.name).length ≤ 1001 := by unfold fldB; rw [List.length_append, List.length_cons, List.length_nil]; omega
  have hhd : [] ++ (fldB s.set.name ++ ([s.set.typ, s.set.life, (s.set.data.len : Int)] : List Int).flatMap numF) = headT s.c := by
    show _ = fldB s.set.name ++ numF s.set.typ ++ numF s.set.life ++ numF (s.set.data.els.length : Int)
    rw [hl4]; simp
  have hhl : (headT s.c).length ≤ 1100 := by
    rw [← hhd]
    simp only [List.length_append, List.length_nil, List.flatMap_cons, List.flatMap_nil]
    omega
  have hdl : ∀ k, ((s.set.data.els.take k).flatMap datumT).length ≤ 1100000 := fun k => by
    have h1 := flat_len (f := datumT) (c := 1100) (l := s.set.data.els.take k) fun x hx => datumT_len (i3 x (List.mem_of_mem_take hx)) (g4.els x (List.mem_of_mem_take hx)).2.1 (g4.els x (List.mem_of_mem_take hx)).2.2
    have h2 : (s.set.data.els.take k).length ≤ 1000 := by rw [List.length_take]; omega
    omega
  have hsl : ∀ k, ((s.sigs.els.take k).flatMap sigT).length ≤ 1200000 := fun k => by
    have h1 := flat_len (f := sigT) (c := 1200) (l := s.sigs.els.take k) fun x hx => sigT_len (i5 x (List.mem_of_mem_take hx)) (g5.els x (List.mem_of_mem_take hx))
    have h2 : (s.sigs.els.take k).length ≤ 1000 := by rw [List.length_take]; omega
    omega
  refine T.enter (vs := [.agg (enc s).toArray]) (H := H) Tryz.func129 rfl rfl rfl hs ?_
  repeat (any_goals (first | refine T.seq ?_ | refine T.region ?_ | refine TL.nil ?_ | refine N.next ?_ | refine T.block ?_ | (apply TL.x; rfl; rfl; (apply X.box (d := 1); rfl; rfl; rfl); intro b1 _; apply TL.frzZ 0; rfl; intro H1 z1 hle1; have g4 := g4.mono hle1; have g5 := g5.mono hle1; have hT := Pow10.mono hle1 hT) | (apply TL.val; rfl; rfl; (apply V.load_H; rfl; rfl; rfl; first | exact z1 0 _ rfl | exact z1 1 _ rfl | exact z1 2 _ rfl | exact z1 3 _ rfl | exact z1 4 _ rfl)) | (apply TL.x; rfl; rfl; (apply X.alloc (d := 3); rfl; rfl; rfl); intro b3 _; apply TL.nilRow 5 1) | (apply TL.val; rfl; rfl; ((apply V.makeFunc (vs := []) (us := [bptr b3]) <;> rfl))) | (apply TL.x; rfl; rfl; (apply X.buildOnes (d := 24); (iterate 9 rfl)); intro b24 _; apply TL.frzBlk 0 (m := 3) (els := ([s.set.typ, s.set.life, (s.set.data.len : Int)] : List Int)); rfl; rfl; rfl; (unfold maxLen; omega); (exact fun x hx => by (rcases List.mem_cons.1 hx with rfl | hx; exact g2; rcases List.mem_cons.1 hx with rfl | hx; exact g3; rcases List.mem_cons.1 hx with rfl | hx; exact hlI; cases hx)); intro H2 gn hle2; have g4 := g4.mono hle2; have g5 := g5.mono hle2; have hT := Pow10.mono hle2 hT; have z1 := Hp.cells_le hle2 z1) | (apply TL.x; rfl; rfl; (apply X.callB [strV s.set.name, Slc.v (⟨some ⟨b24, 0, none⟩, 3, 3, [s.set.typ, s.set.life, (s.set.data.len : Int)]⟩ : Slc Int), bptr b3] (f := 169); (iterate 4 rfl); exact Tryz.call169; exact fun _ hs => c_put (B0 b3) s.set.name ⟨some ⟨b24, 0, none⟩, 3, 3, [s.set.typ, s.set.life, (s.set.data.len : Int)]⟩ (show 3 ≤ 10 by decide) gn hT (p := .pointer none) (v := .slice none 0 0) (l := []) (.inl rfl) (by show 0 + _ ≤ _; omega) hs); intro v4 _) | (apply TL.val; rfl; rfl; (first | exact vpure | exact vread))))
  all_goals (try contradiction)
  rw [hhd]
  refine T.loop (G := Value × Nat × Hp) (fun g => [(1, .pointer (some ⟨b1, 0, none⟩)), (3, bptr b3), (4, .func (.func 169) #[] #[bptr b3]), (28, s.set.data.v), (29, intV s.set.data.len), (30, intV g.2.1)]) (fun g => g.2.2) (fun g => LL0 b3 (bptr b3) g.1 g.1 (headT s.c ++ (s.set.data.els.take g.2.1).flatMap datumT)) (fun g => g.2.1 ≤ s.set.data.len ∧ H2.le g.2.2) (fun g => s.set.data.len - g.2.1) (v4, 0, H2) ⟨Nat.zero_le _, .refl _⟩ (by (repeat (first | exact True.intro | refine ⟨rfl, ?_⟩ | refine Sub.int rfl (by omega) ?_))) rfl (by rw [List.take_zero, List.flatMap_nil, List.append_nil]; exact List.Sublist.refl _) ?_
  rintro ⟨v5, k, H3⟩ ⟨hk, hle3⟩
  simp only at hk hle3 ⊢
  have g4 := g4.mono hle3
  have g5 := g5.mono hle3
  have hT := Pow10.mono hle3 hT
  have z1 := Hp.cells_le hle3 z1
  have hdk := hdl k
  by_cases hlt : k < s.set.data.len
  · have hkl : k < s.set.data.els.length := by omega
    have hrow := g4.row (k := k) hlt
    have hxg := g4.els _ (List.getElem_mem hkl)
    have hxt := i3 _ (List.getElem_mem hkl)
    have hnx := flat_next (f := datumT) hkl
    obtain ⟨x, hx⟩ : ∃ x, s.set.data.els[k]'hkl = x := ⟨_, rfl⟩
    rw [hx] at hxg hxt hnx
    try rw [hx] at hrow
    repeat (any_goals (first | refine T.seq ?_ | refine T.region ?_ | refine TL.nil ?_ | refine N.next ?_ | refine N.inBlock ?_ | refine N.exit_same ?_ | refine N.exit_then ?_ | refine T.skip ?_ | refine T.exit ?_ | refine T.block ?_ | (apply T.test; rfl; (exact isx); intro _; rotate_left; intro _; rotate_right) | (apply TL.val; rfl; rfl; (apply V.elem (j := k); (iterate 6 rfl); omega; exact g4.at_ (by omega))) | (apply TL.val; rfl; rfl; (apply V.load_H_row; rfl; rfl; rfl; exact hrow; rfl)) | (apply TL.x; rfl; rfl; (apply X.alloc (d := 6); rfl; rfl; rfl); intro b6 _) | (apply TL.x; rfl; rfl; (apply X.storeTo 0 (enc x); (iterate 10 rfl)); intro _ _) | (apply TL.x; rfl; rfl; (apply X.buildOnes (d := 41); (iterate 9 rfl)); intro b41 _; apply TL.frzBlk 0 (m := 2) (els := ([x.n, x.m] : List Int)); rfl; rfl; rfl; (unfold maxLen; omega); (exact fun y hy => by (rcases List.mem_cons.1 hy with rfl | hy; exact hxg.2.1; rcases List.mem_cons.1 hy with rfl | hy; exact hxg.2.2; cases hy)); intro H4 gn4 hle4; have hT := Pow10.mono hle4 hT) | (apply TL.x; rfl; rfl; (apply X.callB [strV x.text, Slc.v (⟨some ⟨b41, 0, none⟩, 2, 2, [x.n, x.m]⟩ : Slc Int), bptr b3] (f := 169); (iterate 4 rfl); exact Tryz.call169; exact fun _ hs => c_put ((B0 b3).cons _) x.text ⟨some ⟨b41, 0, none⟩, 2, 2, [x.n, x.m]⟩ (show 2 ≤ 10 by decide) gn4 hT (.inr rfl) (by simp only [List.length_append]; omega) hs); intro w3 _) | (apply TL.val; rfl; rfl; (first | exact vpure | exact vread))))
    all_goals (try contradiction)
    all_goals (try (exfalso; omega))
    all_goals first
      | (refine N.round (w3, k + 1, H4) ⟨by show k + 1 ≤ _; omega, hle3.trans hle4⟩ (by show s.set.data.len - (k + 1) < s.set.data.len - k; omega) (by (repeat (first | exact True.intro | refine ⟨rfl, ?_⟩ | refine Sub.int rfl (by omega) ?_))) rfl ?_
         have e : headT s.c ++ (s.set.data.els.take (k + 1)).flatMap datumT = headT s.c ++ (s.set.data.els.take k).flatMap datumT ++ (fldB x.text ++ ([x.n, x.m] : List Int).flatMap numF) := by
           rw [hnx]; unfold datumT; simp
         simp only [e]
         exact List.Sublist.cons _ (List.Sublist.refl _))
      | trace_state
  · have hke : k = s.set.data.len := by omega
    subst hke
    have hall : s.set.data.els.take s.set.data.len = s.set.data.els := List.take_of_length_le (by omega)
    rw [hall] at hdk ⊢
    obtain ⟨T1, hT1⟩ : ∃ T1, headT s.c ++ s.set.data.els.flatMap datumT = T1 := ⟨_, rfl⟩
    have hT1l : T1.length ≤ 1200000 := by rw [← hT1, List.length_append]; omega
    rw [hT1]
    repeat (any_goals (first | refine T.seq ?_ | refine T.region ?_ | refine TL.nil ?_ | refine N.next ?_ | refine N.exit_same ?_ | refine N.exit_then ?_ | refine T.skip ?_ | refine T.exit ?_ | refine T.block ?_ | (apply T.test; rfl; (exact isx); intro _; rotate_left; intro _; rotate_right) | (apply TL.val; rfl; rfl; (apply V.load_H; rfl; rfl; rfl; first | exact z1 0 _ rfl | exact z1 1 _ rfl | exact z1 2 _ rfl | exact z1 3 _ rfl | exact z1 4 _ rfl)) | (apply TL.val; rfl; rfl; (first | exact vpure | exact vread)) | (apply TL.x; rfl; rfl; (first | exact xgrow | exact xput); intro _ _)))
    all_goals (try contradiction)
    all_goals (try (exfalso; omega))
    refine T.loop (G := Value × Nat × Hp) (fun g => [(1, .pointer (some ⟨b1, 0, none⟩)), (3, bptr b3), (4, .func (.func 169) #[] #[bptr b3]), (45, s.sigs.v), (46, intV s.sigs.len), (47, intV g.2.1)]) (fun g => g.2.2) (fun g => LL0 b3 (bptr b3) g.1 g.1 (T1 ++ (s.sigs.els.take g.2.1).flatMap sigT)) (fun g => g.2.1 ≤ s.sigs.len ∧ H3.le g.2.2) (fun g => s.sigs.len - g.2.1) (v5, 0, H3) ⟨Nat.zero_le _, .refl _⟩ (by (repeat (first | exact True.intro | refine ⟨rfl, ?_⟩ | refine Sub.int rfl (by omega) ?_))) rfl (by rw [List.take_zero, List.flatMap_nil, List.append_nil]; exact List.Sublist.refl _) ?_
    rintro ⟨v6, k, H5⟩ ⟨hk, hle5⟩
    simp only at hk hle5 ⊢
    have g5 := g5.mono hle5
    have hT := Pow10.mono hle5 hT
    have hsk := hsl k
    by_cases hlt : k < s.sigs.len
    · have hkl : k < s.sigs.els.length := by omega
      have hrow := g5.row (k := k) hlt
      have hxg := g5.els _ (List.getElem_mem hkl)
      have hxt := i5 _ (List.getElem_mem hkl)
      have hnx := flat_next (f := sigT) hkl
      obtain ⟨x, hx⟩ : ∃ x, s.sigs.els[k]'hkl = x := ⟨_, rfl⟩
      rw [hx] at hxg hxt hnx
      try rw [hx] at hrow
      obtain ⟨_, y1, y2, y3, y4, y5, y6⟩ := hxg
      have e1 := numF_len y1
      have e2 := numF_len y2
      have e3 := numF_len y3
      have e4 := numF_len y4
      have e5 := decF_len y6
      have e0 : (fldB x.zone).length ≤ 1001 := by unfold fldB; rw [List.length_append, List.length_cons, List.length_nil]; omega
      obtain ⟨u, hu⟩ : ∃ u : Nat, x.sum = u := ⟨x.sum.toNat, by omega⟩
      have hut : x.sum.toNat = u := by omega
      rw [hut] at e5
      have hxe : enc x = [strV x.zone, intV x.key, intV x.alg, intV x.frm, intV x.til, .int .u64 u] := by rw [← hu]; rfl
      rw [hxe] at hrow
      repeat (any_goals (first | refine T.seq ?_ | refine T.region ?_ | refine TL.nil ?_ | refine N.next ?_ | refine N.inBlock ?_ | refine N.exit_same ?_ | refine N.exit_then ?_ | refine T.skip ?_ | refine T.exit ?_ | refine T.block ?_ | (apply T.test; rfl; (exact isx); intro _; rotate_left; intro _; rotate_right) | (apply TL.val; rfl; rfl; (apply V.elem (j := k); (iterate 6 rfl); omega; exact g5.at_ (by omega))) | (apply TL.val; rfl; rfl; (apply V.load_H_row; rfl; rfl; rfl; exact hrow; rfl)) | (apply TL.x; rfl; rfl; (apply X.alloc (d := 8); rfl; rfl; rfl); intro b8 _) | (apply TL.x; rfl; rfl; (apply X.storeTo 0 [strV x.zone, intV x.key, intV x.alg, intV x.frm, intV x.til, .int .u64 u]; (iterate 10 rfl)); intro _ _) | (apply TL.x; rfl; rfl; (apply X.buildOnes (d := 62); (iterate 9 rfl)); intro b62 _; apply TL.frzBlk 0 (m := 4) (els := ([x.key, x.alg, x.frm, x.til] : List Int)); rfl; rfl; rfl; (unfold maxLen; omega); (exact fun y hy => by (rcases List.mem_cons.1 hy with rfl | hy; exact y1; rcases List.mem_cons.1 hy with rfl | hy; exact y2; rcases List.mem_cons.1 hy with rfl | hy; exact y3; rcases List.mem_cons.1 hy with rfl | hy; exact y4; cases hy)); intro H6 gn6 hle6; have hT := Pow10.mono hle6 hT) | (apply TL.x; rfl; rfl; (apply X.callB [strV x.zone, Slc.v (⟨some ⟨b62, 0, none⟩, 4, 4, [x.key, x.alg, x.frm, x.til]⟩ : Slc Int), bptr b3] (f := 169); (iterate 4 rfl); exact Tryz.call169; exact fun _ hs => c_put ((B0 b3).cons _) x.zone ⟨some ⟨b62, 0, none⟩, 4, 4, [x.key, x.alg, x.frm, x.til]⟩ (show 4 ≤ 10 by decide) gn6 hT (.inr rfl) (by simp only [List.length_append]; omega) hs); intro w5 _) | (apply TL.callE (f := 81) [.int .u64 u, intV 10] Tryz.call81; (iterate 4 rfl); (exact fun _ hs => c_FormatUint u (by omega) hs.sat hT)) | (apply TL.x; rfl; rfl; (apply X.callB [strV (Lib.decDigits u), Slc.v (Slc.nil Int), bptr b3] (f := 169); (iterate 4 rfl); exact Tryz.call169; exact fun _ hs => c_put ((B0 b3).cons _) (Lib.decDigits u) (Slc.nil Int) (show 0 ≤ 10 by decide) Slc.nil_good hT (.inr rfl) (by simp only [List.length_append, List.flatMap_cons, List.flatMap_nil, List.length_nil]; omega) hs); intro w6 _) | (apply TL.val; rfl; rfl; (first | exact vpure | exact vread))))
      all_goals (try contradiction)
      all_goals (try (exfalso; omega))
      all_goals first
        | (refine N.round (w6, k + 1, H6) ⟨by show k + 1 ≤ _; omega, hle5.trans hle6⟩ (by show s.sigs.len - (k + 1) < s.sigs.len - k; omega) (by (repeat (first | exact True.intro | refine ⟨rfl, ?_⟩ | refine Sub.int rfl (by omega) ?_))) rfl ?_
           have e : T1 ++ (s.sigs.els.take (k + 1)).flatMap sigT = T1 ++ (s.sigs.els.take k).flatMap sigT ++ (fldB x.zone ++ ([x.key, x.alg, x.frm, x.til] : List Int).flatMap numF) ++ (fldB (Lib.decDigits u) ++ (Slc.nil Int).els.flatMap numF) := by
             rw [hnx]; unfold sigT; rw [hut]; simp [Slc.nil]
           simp only [e]
           exact List.Sublist.cons _ (List.Sublist.refl _))
        | trace_state
    · have hke : k = s.sigs.len := by omega
      subst hke
      have hall : s.sigs.els.take s.sigs.len = s.sigs.els := List.take_of_length_le (by omega)
      rw [hall] at hsk ⊢
      repeat (any_goals (first | refine T.seq ?_ | refine T.region ?_ | refine TL.nil ?_ | refine N.next ?_ | refine N.exit_same ?_ | refine N.exit_then ?_ | refine T.ret ?_ | refine T.skip ?_ | refine T.exit ?_ | refine T.block ?_ | (apply T.test; rfl; (exact isx); intro _; rotate_left; intro _; rotate_right) | (apply TL.x; rfl; rfl; (apply X.callB [bptr b3] (f := 82); (iterate 4 rfl); exact Tryz.call82; exact fun _ hs => c_BString (B0 b3) (by rw [← hT1, List.append_assoc]; exact headT_ne _ _) hs); intro _ _) | (apply TL.val; rfl; rfl; (first | exact vpure | exact vread)) | (apply TL.x; rfl; rfl; (first | exact xgrow | exact xput); intro _ _)))
      all_goals (try contradiction)
      all_goals (try (exfalso; omega))
      exact N.ret1 rfl (by (exact rvx)) fun w hst => ⟨by rw [← hT1]; rfl, hst.below⟩
end Go.Proofs.YtepljgpikfeklaaGreatDoor
