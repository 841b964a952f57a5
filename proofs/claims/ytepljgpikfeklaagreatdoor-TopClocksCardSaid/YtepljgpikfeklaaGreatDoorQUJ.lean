import Derived.Test.YtepljgpikfeklaaGreatDoorQNW
namespace Go.Proofs.YtepljgpikfeklaaGreatDoor
set_option linter.unusedVariables false
set_option linter.unusedSimpArgs false
open Go Go.RowKit
open Enc (enc)
set_option maxRecDepth 20000
theorem V.fieldC {P : Program} {n : FK} {S : World → Prop} {env : List (Nat × Value)} [Tys P] {st : TypeId} {x : Operand} {f off sz : Nat} {ft : TypeId} {k kf : TyK} {fs : List (Nat × Nat × TypeId)} {cs : List Value} {v : Value} (hk : tyk P st = some k) (hd : k.desc = .struct fs) (hf : fs[f]? = some (off, sz, ft)) (hkf : tyk P ft = some kf) (ha : kf.desc.agg = false) (hx : ev env x = some (.agg cs.toArray)) (hv : cs[off]? = some v) : V P n S env (.field st x f) v :=
  ⟨fun o a w ho hfr _ => by
    obtain ⟨d, hu, hf'⟩ := (tyk_ok hk).und
    rw [hd] at hf'
    obtain ⟨fields, rfl, hmap⟩ := hf'
    have hff : (fields.toList.map (fun f => (f.offset, P.cellsOf f.type, f.type)))[f]? = some (off, sz, ft) := by rw [hmap]; exact hf
    rw [List.getElem?_map] at hff
    cases hg : fields.toList[f]? with
    | none => rw [hg] at hff; cases hff
    | some fld =>
      rw [hg] at hff
      simp at hff
      obtain ⟨e1, e2, e3⟩ := hff
      have hg' : fields[f]? = some fld := by simpa using hg
      have hA := (tyk_ok hkf).isAgg w
      have hS := (tyk_ok hkf).sizeOf w
      rw [ha] at hA
      have hv' : cs.toArray[off]? = some v := by simpa using hv
      unfold execOp; rw [ho]
      simp [hfr.ev hx, Instr.field, run_underlying hu, hg', e3, e1, part, asAgg, hA, hS, hv, hv']⟩
theorem zone_third {z : ZoneV} {a : Int} (h : z.c = r7zone 1 [a]) {H : Hp} (hg : Enc.good H z) : ∃ s : Signed, s.c = r7w a ∧ Enc.good H s ∧ z.sets.len = 3 ∧ H.cells z.sets.b (z.sets.o + 2 * 5) (enc s) ∧ z.sets.A = some ⟨z.sets.b, z.sets.o, none⟩ := by
  have h1 : z.sets.els.map Signed.c = (r7zone 1 [a]).sets := congrArg ZoneC.sets h
  have h2 : (r7zone 1 [a]).sets = r7first 1 ++ [r7w a] := rfl
  have h3 := congrArg List.length h1
  rw [List.length_map, h2] at h3
  have h3 : z.sets.els.length = 3 := h3
  have hl := hg.2.len
  refine ⟨z.sets.els[2]'(by omega), ?_, hg.2.els _ (List.getElem_mem _), by omega, hg.2.row (k := 2) (by omega), hg.2.at_ (by omega)⟩
  have h4 := List.getElem_of_eq h1 (i := 2) (by rw [List.length_map]; omega)
  rw [List.getElem_map] at h4
  rw [h4]
  rfl
theorem cache_one {d : Cache} {x : EntryC} (hd : d.c = [x]) : ∃ e, d.list.els = [e] ∧ e.c = x := by
  have h : d.list.els.map Entry.c = [x] := hd
  cases he : d.list.els with
  | nil => rw [he] at h; cases h
  | cons e l =>
    rw [he] at h
    cases l with
    | nil => exact ⟨e, rfl, List.head_eq_of_cons_eq h⟩
    | cons _ _ => have := congrArg List.length h; simp at this
theorem c_Allowed7 {h : HistV} (p : PastOK h) {d : Cache} (hd : d.c = [⟨r7w 7, [120], 20⟩]) {H : Hp} {w : World} (hs : Sat H w) (hR : Rules H) (hT : Pow10 H) (hg : Enc.good H h) (hdg : Enc.good H d) : Calls Tryz.prog 15 #[.agg (enc h).toArray, .agg (enc d).toArray, intV 19] w (Ret w (.tuple #[.bool true, intV 0])) := by
  obtain ⟨ok, fe⟩ := past_ok p hg
  obtain ⟨e, he, hx⟩ := cache_one hd
  have hes : ∀ x ∈ d.list.els, ValidS x.signed.c := fun x hxm => by
    rw [he] at hxm
    rw [List.mem_singleton.1 hxm]
    have : e.signed.c = r7w 7 := congrArg EntryC.signed hx
    rw [this]; exact r7w_valid 7 r7w_ok7
  refine (c_Allowed h d 19 ok fe (by rw [hd]; exact cache_7) (by decide) hs hR hT hg hdg hes).mono ?_
  rintro e' w' ⟨b, all, a, hb, rfl, hB⟩
  have : b = true := hb.2 fun x hxm => by
    rw [he] at hxm
    rw [List.mem_singleton.1 hxm]
    exact allow_7 p a hx
  subst this
  exact ⟨rfl, hB⟩
theorem c_Allowed8 {h : HistV} (p : PastOK h) {d : Cache} (hd : d.c = [⟨r7w 8, [120], 20⟩]) {H : Hp} {w : World} (hs : Sat H w) (hR : Rules H) (hT : Pow10 H) (hg : Enc.good H h) (hdg : Enc.good H d) : Calls Tryz.prog 15 #[.agg (enc h).toArray, .agg (enc d).toArray, intV 19] w (Ret w (.tuple #[.bool false, intV 0])) := by
  obtain ⟨ok, fe⟩ := past_ok p hg
  obtain ⟨e, he, hx⟩ := cache_one hd
  have hem : e ∈ d.list.els := by rw [he]; exact List.mem_singleton.2 rfl
  have hes : ∀ x ∈ d.list.els, ValidS x.signed.c := fun x hxm => by
    rw [he] at hxm
    rw [List.mem_singleton.1 hxm]
    have : e.signed.c = r7w 8 := congrArg EntryC.signed hx
    rw [this]; exact r7w_valid 8 r7w_ok8
  refine (c_Allowed h d 19 ok fe (by rw [hd]; exact cache_8) (by decide) hs hR hT hg hdg hes).mono ?_
  rintro e' w' ⟨b, all, a, hb, rfl, hB⟩
  have : b = false := by
    cases hbv : b with
    | false => rfl
    | true => exact absurd (hb.1 hbv e hem) (allow_8 p a (Slc.Good.els hdg e hem) hx)
  subst this
  exact ⟨rfl, hB⟩
set_option maxHeartbeats 16000000 in
theorem c_r7Kept {H : Hp} {w : World} (hs : Sat H w) (hR : Rules H) (hT : Pow10 H) : Calls Tryz.prog 4 #[] w (Ret w (.bool true)) := by
  refine T.enter (vs := []) (H := H) Tryz.func4 rfl rfl rfl hs ?_
  have hgq : ∀ H : Hp, Enc.good H r7q := fun H => ⟨show LenOk ([119, 46, 120] : Bytes) by decide, show I64 1 by decide⟩
  repeat (any_goals (first | (apply T.seqU 3; rfl) | refine T.region ?_ | refine TL.nil ?_ | refine N.next ?_ | (apply TL.x; rfl; rfl; (apply X.alloc (d := 1); rfl; rfl; rfl); intro b1 _) | (apply TL.val; rfl; rfl; (apply V.build; (iterate 6 rfl))) | (apply TL.x; rfl; rfl; (apply X.storeTo 0 (enc r7q); (iterate 10 rfl)); intro _ _) | (apply TL.val; rfl; rfl; (first | exact vpure | exact vread))))
  simp only [List.set_cons_zero]
  repeat (any_goals (first | (apply T.regionDS (id := 2) [.blk b1 56 (enc r7q)] wide; rfl; (repeat (first | exact List.Sublist.refl _ | exact List.nil_sublist _ | apply List.Sublist.cons_cons | apply List.Sublist.cons))) | (apply T.seqU 4; rfl) | refine N.next ?_ | (apply GT.readAt 1; (iterate 4 rfl); (apply V.load_loc_row; rfl; rfl; rfl; (exact lmem); rfl; rfl); decide +kernel) | (apply GS.grow; rfl; rfl; (apply X.callFE (f := 13) [] Tryz.call13; rfl; rfl; rfl; exact (fun _ hs => c_r7Past hs.sat)); rintro ⟨Hh1, h1⟩ ⟨⟨p1, ph1⟩, pl1⟩; have hR := Rules.mono pl1 hR; have hT := Pow10.mono pl1 hT; obtain ⟨ok1, fe1⟩ := past_ok p1 ph1) | (apply GS.grow; rfl; rfl; (apply X.callFE (f := 11) [.agg (enc h1).toArray, .agg (enc r7q).toArray, intV 23] Tryz.call11; rfl; rfl; rfl; exact (fun _ hs => c_Possible h1 r7q 23 ok1 fe1 question_7 (by decide) hs.sat hR hT ph1 (hgq _))); rintro ⟨Hq1, l1⟩ ⟨⟨⟨all1, a1, o1⟩, og1⟩, ol1⟩; have hR := Rules.mono ol1 hR; have hT := Pow10.mono ol1 hT; have len1 : l1.len = 1 := (by rw [← og1.len]; exact poss_23 p1 a1 o1)) | (apply GT.pure; (iterate 4 rfl); (first | exact vpure); decide +kernel) | (apply GT.done; decide +kernel; apply N.ofQ) | (apply GT.adv; rfl) | (apply GT.fork1; decide +kernel)))
  repeat (any_goals (first | (apply T.regionDS (id := 3) [.blk b1 56 (enc r7q)] wide; rfl; (repeat (first | exact List.Sublist.refl _ | exact List.nil_sublist _ | apply List.Sublist.cons_cons | apply List.Sublist.cons))) | (apply T.seqU 5; rfl) | refine N.next ?_ | (apply GT.readAt 1; (iterate 4 rfl); (apply V.load_loc_row; rfl; rfl; rfl; (exact lmem); rfl; rfl); decide +kernel) | (apply GS.grow; rfl; rfl; (apply X.callFE (f := 13) [] Tryz.call13; rfl; rfl; rfl; exact (fun _ hs => c_r7Past hs.sat)); rintro ⟨Hh2, h2⟩ ⟨⟨p2, ph2⟩, pl2⟩; have hR := Rules.mono pl2 hR; have hT := Pow10.mono pl2 hT; obtain ⟨ok2, fe2⟩ := past_ok p2 ph2) | (apply GS.grow; rfl; rfl; (apply X.callFE (f := 11) [.agg (enc h2).toArray, .agg (enc r7q).toArray, intV 24] Tryz.call11; rfl; rfl; rfl; exact (fun _ hs => c_Possible h2 r7q 24 ok2 fe2 question_7 (by decide) hs.sat hR hT ph2 (hgq _))); rintro ⟨Hq2, l2⟩ ⟨⟨⟨all2, a2, o2⟩, og2⟩, ol2⟩; have hR := Rules.mono ol2 hR; have hT := Pow10.mono ol2 hT; have len2 : l2.len = 0 := (by rw [← og2.len]; exact poss_24 p2 a2 o2)) | (apply GT.pure; (iterate 4 rfl); (first | exact vpure); decide +kernel) | (apply GT.done; decide +kernel; apply N.ofQ) | (apply GT.adv; rfl) | (apply GT.fork1; decide +kernel)))
  repeat (any_goals (first | (apply T.seqU 6; rfl) | refine T.region ?_ | refine TL.nil ?_ | refine N.next ?_ | (apply TL.x; rfl; rfl; (apply X.buildSlice1 (d := 29); (iterate 8 rfl)); intro c3 _; apply TL.frzBlk 0 (α := Int) (els := [(7 : Int)]) (m := 1) rfl rfl rfl (by decide) (by refine good_sing ?_; exact (show I64 7 by decide)); intro Hc3 gc3 lc3; have hR := Rules.mono lc3 hR; have hT := Pow10.mono lc3 hT) | (apply TL.x; rfl; rfl; (apply X.callFE (f := 14) [intV 1, (⟨some ⟨c3, 0, none⟩, 1, 1, [7]⟩ : Slc Int).v] Tryz.call14; rfl; rfl; rfl; exact (fun _ hs => c_r7Zone 1 ⟨some ⟨c3, 0, none⟩, 1, 1, [7]⟩ (by decide) (show (1 : Nat) ≤ 100 by decide) hs.sat gc3)); rintro ⟨Hz3, z3⟩ ⟨⟨zc3, zg3⟩, zl3⟩; have hR := Rules.mono zl3 hR; have hT := Pow10.mono zl3 hT; obtain ⟨s3, sc3, sg3, sl3, srow3, sat3⟩ := zone_third zc3 zg3) | (apply TL.val; rfl; rfl; (apply V.elem (j := 2); (iterate 6 rfl); (rw [sl3]; decide); exact sat3)) | (apply TL.val; rfl; rfl; (apply V.load_H_row; rfl; rfl; rfl; exact srow3; rfl)) | (apply TL.val; rfl; rfl; (apply V.fieldC; (iterate 7 rfl))) | (apply TL.val; rfl; rfl; (apply V.build; (iterate 6 rfl))) | (apply TL.x; rfl; rfl; (apply X.callFE (f := 9) [.agg (enc (⟨Slc.nil _⟩ : Cache)).toArray, .agg (enc s3).toArray, strV [120], intV 19] Tryz.call9; rfl; rfl; rfl; exact (fun _ hs => c_PutL ⟨Slc.nil _⟩ s3 [120] 19 (r := [⟨r7w 7, [120], 20⟩]) (e := 0) (k := 1) (by rw [sc3]; exact put_7) rfl hs.sat hR Slc.nil_good sg3 (by decide) (by decide))); rintro ⟨Hd3, d3⟩ ⟨⟨dc3, dg3, dl3⟩, dle3⟩; have hR := Rules.mono dle3 hR; have hT := Pow10.mono dle3 hT) | (apply TL.x; rfl; rfl; (apply X.alloc (d := 6); rfl; rfl; rfl); intro e3 _) | (apply TL.x; rfl; rfl; (apply X.storeTo 0 (enc d3); (iterate 10 rfl)); intro _ _) | (apply TL.val; rfl; rfl; (first | exact vpure | exact vread))))
  repeat (any_goals (first | (apply T.regionDS (id := 5) [.blk e3 49 (enc d3)] wide; rfl; (repeat (first | exact List.Sublist.refl _ | exact List.nil_sublist _ | apply List.Sublist.cons_cons | apply List.Sublist.cons))) | (apply T.seqU 7; rfl) | refine N.next ?_ | (apply GT.readAt 1; (iterate 4 rfl); (apply V.load_loc_row; rfl; rfl; rfl; (exact lmem); rfl; rfl); decide +kernel) | (apply GS.grow; rfl; rfl; (apply X.callFE (f := 13) [] Tryz.call13; rfl; rfl; rfl; exact (fun _ hs => c_r7Past hs.sat)); rintro ⟨Hh4, h4⟩ ⟨⟨p4, ph4⟩, pl4⟩; have hR := Rules.mono pl4 hR; have hT := Pow10.mono pl4 hT; have dg3 := Enc.mono pl4 dg3; obtain ⟨ok4, fe4⟩ := past_ok p4 ph4) | (apply GS.grow; rfl; rfl; (apply X.callRE (f := 15) [.agg (enc h4).toArray, .agg (enc d3).toArray, intV 19] Tryz.call15; rfl; rfl; rfl; exact (fun _ hs => c_Allowed7 p4 dc3 hs.sat hR hT ph4 dg3)); intro _ _) | (apply GT.pure; (iterate 4 rfl); (first | exact vpure); decide +kernel) | (apply GT.done; decide +kernel; apply N.ofQ) | (apply GT.adv; rfl) | (apply GT.fork1; decide +kernel)))
  repeat (any_goals (first | (apply T.seqU 8; rfl) | refine T.region ?_ | refine TL.nil ?_ | refine N.next ?_ | (apply TL.x; rfl; rfl; (apply X.buildSlice1 (d := 45); (iterate 8 rfl)); intro c5 _; apply TL.frzBlk 0 (α := Int) (els := [(8 : Int)]) (m := 1) rfl rfl rfl (by decide) (by refine good_sing ?_; exact (show I64 8 by decide)); intro Hc5 gc5 lc5; have hR := Rules.mono lc5 hR; have hT := Pow10.mono lc5 hT) | (apply TL.x; rfl; rfl; (apply X.callFE (f := 14) [intV 1, (⟨some ⟨c5, 0, none⟩, 1, 1, [8]⟩ : Slc Int).v] Tryz.call14; rfl; rfl; rfl; exact (fun _ hs => c_r7Zone 1 ⟨some ⟨c5, 0, none⟩, 1, 1, [8]⟩ (by decide) (show (1 : Nat) ≤ 100 by decide) hs.sat gc5)); rintro ⟨Hz5, z5⟩ ⟨⟨zc5, zg5⟩, zl5⟩; have hR := Rules.mono zl5 hR; have hT := Pow10.mono zl5 hT; obtain ⟨s5, sc5, sg5, sl5, srow5, sat5⟩ := zone_third zc5 zg5) | (apply TL.val; rfl; rfl; (apply V.elem (j := 2); (iterate 6 rfl); (rw [sl5]; decide); exact sat5)) | (apply TL.val; rfl; rfl; (apply V.load_H_row; rfl; rfl; rfl; exact srow5; rfl)) | (apply TL.val; rfl; rfl; (apply V.fieldC; (iterate 7 rfl))) | (apply TL.val; rfl; rfl; (apply V.build; (iterate 6 rfl))) | (apply TL.x; rfl; rfl; (apply X.callFE (f := 9) [.agg (enc (⟨Slc.nil _⟩ : Cache)).toArray, .agg (enc s5).toArray, strV [120], intV 19] Tryz.call9; rfl; rfl; rfl; exact (fun _ hs => c_PutL ⟨Slc.nil _⟩ s5 [120] 19 (r := [⟨r7w 8, [120], 20⟩]) (e := 0) (k := 1) (by rw [sc5]; exact put_8) rfl hs.sat hR Slc.nil_good sg5 (by decide) (by decide))); rintro ⟨Hd5, d5⟩ ⟨⟨dc5, dg5, dl5⟩, dle5⟩; have hR := Rules.mono dle5 hR; have hT := Pow10.mono dle5 hT) | (apply TL.x; rfl; rfl; (apply X.alloc (d := 10); rfl; rfl; rfl); intro e5 _) | (apply TL.x; rfl; rfl; (apply X.storeTo 0 (enc d5); (iterate 10 rfl)); intro _ _) | (apply TL.val; rfl; rfl; (first | exact vpure | exact vread))))
  repeat (any_goals (first | (apply T.regionDS (id := 7) [.blk e5 49 (enc d5)] wide; rfl; (repeat (first | exact List.Sublist.refl _ | exact List.nil_sublist _ | apply List.Sublist.cons_cons | apply List.Sublist.cons))) | refine T.seq ?_ | refine T.region ?_ | refine TL.nil ?_ | refine N.next ?_ | refine T.ret ?_ | (apply TL.skip; rfl; rfl; rfl) | (apply GT.readAt 1; (iterate 4 rfl); (apply V.load_loc_row; rfl; rfl; rfl; (exact lmem); rfl; rfl); decide +kernel) | (apply GS.grow; rfl; rfl; (apply X.callFE (f := 13) [] Tryz.call13; rfl; rfl; rfl; exact (fun _ hs => c_r7Past hs.sat)); rintro ⟨Hh6, h6⟩ ⟨⟨p6, ph6⟩, pl6⟩; have hR := Rules.mono pl6 hR; have hT := Pow10.mono pl6 hT; have dg5 := Enc.mono pl6 dg5; obtain ⟨ok6, fe6⟩ := past_ok p6 ph6) | (apply GS.grow; rfl; rfl; (apply X.callRE (f := 15) [.agg (enc h6).toArray, .agg (enc d5).toArray, intV 19] Tryz.call15; rfl; rfl; rfl; exact (fun _ hs => c_Allowed8 p6 dc5 hs.sat hR hT ph6 dg5)); intro _ _) | (apply TL.val; rfl; rfl; (first | exact vpure | exact vread)) | (apply GT.pure; (iterate 4 rfl); (first | exact vpure); decide +kernel) | (apply GT.done; decide +kernel; apply N.ofQ) | (apply GT.adv; rfl) | (apply TL.guard; rfl; rfl; rfl; (exact isx); intro _; rotate_left; intro _; rotate_right) | (apply GT.fork1; decide +kernel)))
  all_goals (try contradiction)
  · exact N.ret_bool rfl (by (exact rvx)) rfl
  · rename_i hb
    exact absurd (show ((l2.len : Nat) : Int) = 0 by omega) hb
  · rename_i hb
    exact absurd (show ((l1.len : Nat) : Int) = 1 by omega) hb
end Go.Proofs.YtepljgpikfeklaaGreatDoor
