import Derived.Test.YtepljgpikfeklaaGreatDoorQUC
import Derived.Test.YtepljgpikfeklaaGreatDoorQVI
import Derived.Test.YtepljgpikfeklaaGreatDoorQVT
namespace Go.Proofs.YtepljgpikfeklaaGreatDoor
set_option linter.unusedVariables false
set_option linter.unusedSimpArgs false
open Go Go.RowKit
open Enc (enc)
set_option maxRecDepth 20000
def asksS (q : Question) (s : Signed) : Prop := s.set.name = q.name ∧ s.set.typ = q.typ
def textsS (l : List Signed) : List Bytes := l.map fun y => textC y.c
structure PossTo (ys : List HeldV) (q : Question) (k : Nat) (got : List Signed) : Prop where
  cover : ∀ x ∈ ys.take k, asksS q x.signed → textC x.signed.c ∈ textsS got
  each : ∀ y ∈ got, ∃ x ∈ ys, asksS q x.signed ∧ y = x.signed
  nodup : (textsS got).Nodup
  len : got.length ≤ k
theorem textsS_snoc (l : List Signed) (s : Signed) : textsS (l ++ [s]) = textsS l ++ [textC s.c] := by unfold textsS; rw [List.map_append]; rfl
theorem PossTo.start {ys : List HeldV} {q : Question} : PossTo ys q 0 [] := ⟨fun x hx => (by cases hx), fun y hy => (by cases hy), List.nodup_nil, Nat.zero_le _⟩
section
variable {ys : List HeldV} {q : Question} {k : Nat} {got : List Signed}
theorem PossTo.skip (p : PossTo ys q k got) (hk : k < ys.length) (h : ¬ asksS q ys[k].signed ∨ textC ys[k].signed.c ∈ textsS got) : PossTo ys q (k + 1) got := by
  refine ⟨fun x hx ha => ?_, p.each, p.nodup, Nat.le_succ_of_le p.len⟩
  rw [List.take_succ_eq_append_getElem hk] at hx
  rcases List.mem_append.1 hx with hx | hx
  · exact p.cover x hx ha
  · rw [List.mem_singleton.1 hx] at ha ⊢
    exact h.resolve_left (fun n => n ha)
theorem PossTo.new (p : PossTo ys q k got) (hk : k < ys.length) (h : asksS q ys[k].signed) (hn : textC ys[k].signed.c ∉ textsS got) : PossTo ys q (k + 1) (got ++ [ys[k].signed]) := by
  refine ⟨fun x hx ha => ?_, fun y hy => ?_, ?_, ?_⟩
  · rw [textsS_snoc]
    rw [List.take_succ_eq_append_getElem hk] at hx
    rcases List.mem_append.1 hx with hx | hx
    · exact List.mem_append_left _ (p.cover x hx ha)
    · rw [List.mem_singleton.1 hx]
      exact List.mem_append_right _ (List.mem_singleton.2 rfl)
  · rcases List.mem_append.1 hy with hy | hy
    · exact p.each y hy
    · exact ⟨_, List.getElem_mem hk, h, List.mem_singleton.1 hy⟩
  · rw [textsS_snoc]
    exact List.nodup_append.2 ⟨p.nodup, by simp, fun a ha b hb => by rw [List.mem_singleton.1 hb]; exact fun e => hn (e ▸ ha)⟩
  · rw [List.length_append, List.length_cons, List.length_nil]; have := p.len; omega
end
def metZ (l : List Bytes) : List (Bytes × Value) := l.map fun x => (x, Value.bool true)
def possL (v : Value) (b11 bm : Nat) (got : List Signed) : List Loc := [.row v 44 5 got.length (encs got), .blk b11 34 [v], .any bm (mObj (fun a : Bytes => strV a) (metZ (textsS got)))]
set_option maxHeartbeats 8000000 in
theorem c_Possible (h : HistV) (q : Question) (t : Int) (hh : HistOK h) (hfew : FewH h) (hq : questionOK q = true) (ht : 0 ≤ t ∧ t ≤ 20000000) {H : Hp} {w : World} (hs : Sat H w) (hR : Rules H) (hT : Pow10 H) (hgd : Enc.good H h) (hgq : Enc.good H q) : Calls Tryz.prog 11 #[.agg (enc h).toArray, .agg (enc q).toArray, intV t] w (RetF w H (fun p : Hp × Slc Signed => (∃ all : Slc HeldV, AllOK h all.els ∧ PossTo (atZ all t) q (atZ all t).length p.2.els) ∧ p.2.Good p.1) (fun p => .tuple #[p.2.v, intV 0]) (fun p => p.1)) := by
  have hzone : ∀ c ∈ h.copies.els, ZonedR c.zone.c := fun c hc => by
    obtain ⟨j, hj, rfl⟩ := List.mem_iff_getElem.1 hc
    exact (hh.each j hj hj).1.zone
  have hvalid : ∀ c ∈ h.copies.els, ∀ s ∈ c.zone.sets.els, ValidS s.c := fun c hc s hs => zoned_valid (hzone c hc) (hgd.2.1.els c hc).2.2.2 hs
  refine T.enterM (vs := [.agg (enc h).toArray, .agg (enc q).toArray, intV t]) (H := H) Tryz.func11 rfl rfl rfl hs ?_
  repeat (any_goals (first | refine T.seq ?_ | refine T.region ?_ | refine TL.nil ?_ | refine N.next ?_ | refine N.ret_then ?_ | refine T.ret ?_ | refine T.skip ?_ | refine T.block ?_ | (apply T.cond_true; rfl) | (apply T.cond_false; rfl) | (apply T.test; rfl; (exact isx); intro _; rotate_left; intro _; rotate_right) | (apply TL.skip; rfl; rfl; rfl) | (apply TL.x; rfl; rfl; (apply X.box (d := 3); rfl; rfl; rfl); intro b3 _; apply TL.frzZ 0; rfl; intro H1 z3 hle1; have hgd := Enc.mono hle1 hgd; have hgq := Enc.mono hle1 hgq; have hR := Rules.mono hle1 hR; have hT := Pow10.mono hle1 hT) | (apply TL.x; rfl; rfl; (apply X.box (d := 4); rfl; rfl; rfl); intro b4 _; apply TL.frzZ 0; rfl; intro H2 z4 hle2; have hgd := Enc.mono hle2 hgd; have hgq := Enc.mono hle2 hgq; have hR := Rules.mono hle2 hR; have hT := Pow10.mono hle2 hT; have z3 := Hp.cells_le hle2 z3) | (apply TL.val; rfl; rfl; (apply V.load_H_row; rfl; rfl; rfl; exact z3; rfl)) | (apply TL.val; rfl; rfl; (apply V.load_H_row; rfl; rfl; rfl; exact z4; rfl)) | (apply TL.callE (f := 32) [.agg (enc h).toArray] Tryz.call32; (iterate 4 rfl); (exact fun _ hs => c_historyValid h hh hs.sat hR hgd)) | (apply TL.callE (f := 33) [.agg (enc q).toArray] Tryz.call33; (iterate 4 rfl); (exact fun _ hs => hq ▸ c_holdsQuestion q hs.sat hR hgq)) | (apply TL.x; rfl; rfl; (apply X.callFE (f := 34) [.agg (enc h).toArray] Tryz.call34; rfl; rfl; rfl; exact (fun _ hs => c_All h hh hfew hs.sat hR hT hgd)); rintro ⟨Ha, all⟩ ⟨⟨ha1, ha2⟩, ha3⟩; have hgd := Enc.mono ha3 hgd; have hT := Pow10.mono ha3 hT; have z4 := Hp.cells_le ha3 z4) | (apply TL.x; rfl; rfl; (apply X.makeMap (d := 38) (fun a : Bytes => strV a); rfl); intro bm _) | (apply TL.x; rfl; rfl; (apply X.alloc (d := 10); rfl; rfl; rfl); intro b10 _) | (apply TL.x; rfl; rfl; (apply X.storeTo 0 [.map (some bm)]; (iterate 10 rfl)); intro _ _; apply TL.frzZ 0; rfl; intro H3 z10 hle3; have hgd := Enc.mono hle3 hgd; have hT := Pow10.mono hle3 hT; have z4 := Hp.cells_le hle3 z4; have ha2 := ha2.mono hle3) | (apply TL.x; rfl; rfl; (apply X.alloc (d := 11); rfl; rfl; rfl); intro b11 _) | (apply TL.x; rfl; rfl; (apply X.callFE (f := 35) [all.v, intV t] Tryz.call35; rfl; rfl; rfl; exact (fun _ hs => c_hat all t hs.sat)); rintro ⟨Hc, ba, bt⟩ ⟨⟨hp0, hp1, hp2⟩, hp3⟩; have hgd := Enc.mono hp0 hgd; have hT := Pow10.mono hp0 hT; have z4 := Hp.cells_le hp0 z4; have z10 := Hp.cells_le hp0 z10; have ha2 := ha2.mono hp0) | (apply TL.val; rfl; rfl; (first | exact vpure | exact vread)) | (apply TL.guard; rfl; rfl; rfl; (exact isx); intro _; rotate_left; intro _; rotate_right)))
  all_goals (try contradiction)
  all_goals (try (exfalso; omega))
  obtain ⟨ys, hys⟩ : ∃ ys, atZ all t = ys := ⟨_, rfl⟩
  have hal : all.els.length ≤ 2000 := ha1.len
  have hyl : ys.length ≤ 2000 := by rw [← hys]; exact Nat.le_trans (List.length_filter_le _ _) hal
  have hyin : ∀ x ∈ ys, x ∈ all.els := fun x hx => by rw [← hys] at hx; exact (List.mem_filter.1 hx).1
  refine T.nilRow 44 5 ?_
  refine T.rangeFunc (G := Hp × Value × List Signed) (fun _ => .normal) (fun g => g.1) (fun g => possL g.2.1 b11 bm g.2.2) (fun g => PossTo ys q ys.length g.2.2 ∧ Hc.le g.1) rfl Tryz.call74 (fun _ _ => trivial) ?_ ?_
  · intro fn a b hf w1 hs1
    have hs1' := hs1.sub (L' := .any (b + 1) (.loop (recd fn a.tmps _ _ _ b .ready none)) :: .any b (.deferred (some [])) :: possL (.slice none 0 0) b11 bm []) (List.Sublist.refl _)
    refine (c_hat1 all t ba bt hp1 hp2 ha2 (G := Hp × Value × List Signed) (fun k g => PossTo ys q k g.2.2 ∧ Hc.le g.1) (fun _ => False) (fun g => g.1) (fun g => .any (b + 1) (.loop (recd fn a.tmps _ _ _ b .ready none)) :: .any b (.deferred (some [])) :: possL g.2.1 b11 bm g.2.2) (fun k g h => h.2) ?_ (Hc, .slice none 0 0, []) ⟨.start, .refl _⟩ hs1').mono ?_
    · rintro k ⟨Hg, v, got⟩ ⟨hg1, hg2⟩ hk w2 hs2
      simp only at hg1 hg2 hs2
      simp only [hys] at hk ⊢
      obtain ⟨x, hx⟩ : ∃ x, ys[k]'hk = x := ⟨_, rfl⟩
      have hxm := hyin _ (List.getElem_mem hk)
      rw [hx] at hxm ⊢
      have hxg := Enc.mono hg2 (ha2.els x hxm)
      have hgl := hg1.len
      have z4g := Hp.cells_le hg2 z4
      have z10g := Hp.cells_le hg2 z10
      have hTg := Pow10.mono hg2 hT
      have htin : TextIn x.signed.c := by
        obtain ⟨c, hc, _, s, hs, e⟩ := (ha1.each x hxm).src
        rw [e]; exact (hvalid c hc s hs).textIn
      refine yieldAt_ofG (j := 1) (G := Nat) (fun b12 => [(4, .pointer (some ⟨b4, 0, none⟩)), (10, .pointer (some ⟨b10, 0, none⟩)), (11, .pointer (some ⟨b11, 0, none⟩)), (12, .pointer (some ⟨b12, 0, none⟩))]) (fun b12 => .blk b12 96 (enc x) :: .any (b + 1) (.loop (recd fn a.tmps _ _ _ b .ready none)) :: .any b (.deferred (some [])) :: possL v b11 bm got) (i := 0) hs2 rfl (fun _ => rfl) rfl _ (Fr.round1 hf rfl) ?_ ?_
      · repeat (any_goals (first | refine T.region ?_ | refine TL.nil ?_ | (apply TL.x; rfl; rfl; (apply X.storeTo 0 (enc x); (iterate 10 rfl)); intro _ _) | (apply TL.x; rfl; rfl; (first | exact xgrow | exact xput); intro _ _)))
        all_goals (try contradiction)
        rename_i b12 _ _ _
        exact N.bothG b12 (by (repeat (first | exact True.intro | refine ⟨rfl, ?_⟩ | refine Sub.int rfl (by omega) ?_))) (List.Sublist.refl _)
      · intro b12
        simp only [List.set_cons_succ, List.set_cons_zero]
        unfold possL
        by_cases hname : x.signed.set.name = q.name
        · by_cases htyp : x.signed.set.typ = q.typ
          · by_cases hmem : textC x.signed.c ∈ textsS got
            · have hget : (aGet (textC x.signed.c) (metZ (textsS got))).getD (.bool false) = .bool true := (aGet_set (textC x.signed.c) (textsS got)).trans (congrArg Value.bool ((decide_eq_decide.2 Iff.rfl).trans (decide_eq_true hmem)))
              repeat (any_goals (first | refine T.seq ?_ | refine T.region ?_ | refine TL.nil ?_ | refine N.next ?_ | refine N.inBlock ?_ | refine N.exit_same ?_ | refine N.exit_then ?_ | refine T.skip ?_ | refine T.exit ?_ | refine T.block ?_ | (apply T.cond_true; rfl) | (apply T.cond_false; rfl) | (apply T.test; rfl; (exact isx); intro _; rotate_left; intro _; rotate_right) | (apply TL.skip; rfl; rfl; rfl) | (apply TL.val; rfl; rfl; (apply V.load_H; rfl; rfl; rfl; exact z4g 0 _ rfl)) | (apply TL.val; rfl; rfl; (apply V.load_H; rfl; rfl; rfl; exact z4g 1 _ rfl)) | (apply TL.callE (f := 36) [.agg (enc x.signed).toArray] Tryz.call36; (iterate 4 rfl); (exact fun _ hs => c_textHolds x.signed htin hs.sat hTg hxg.2.1)) | (apply TL.val; rfl; rfl; (apply V.load_H; rfl; rfl; rfl; exact z10g 0 _ rfl)) | (apply TL.val; rfl; rfl; (apply V.mlookup (mk := fun a : Bytes => strV a) (textC x.signed.c); rfl; rfl; rfl; exact keyS Tryz.underlying9; rfl; rfl; (exact lmem); exact hget)) | (apply TL.val; rfl; rfl; (first | exact vpure | exact vread)) | (apply TL.guard; rfl; rfl; rfl; (exact isx); intro _; rotate_left; intro _; rotate_right)))
              all_goals (try contradiction)
              all_goals (try (exfalso; omega))
              refine N.round_out (i := 1) (e := .normal) trivial rfl fun w hs => ⟨true, (Hg, v, got), rfl, ?_, hs.sub (.cons _ (List.Sublist.refl _))⟩
              rw [if_pos rfl]
              exact ⟨hg1.skip hk (by rw [hx]; exact .inr hmem), hg2⟩
            · have hget : (aGet (textC x.signed.c) (metZ (textsS got))).getD (.bool false) = .bool false := (aGet_set (textC x.signed.c) (textsS got)).trans (congrArg Value.bool ((decide_eq_decide.2 Iff.rfl).trans (decide_eq_false hmem)))
              repeat (any_goals (first | refine T.seq ?_ | refine T.region ?_ | refine TL.nil ?_ | refine N.next ?_ | refine N.inBlock ?_ | refine N.exit_same ?_ | refine N.exit_then ?_ | refine T.skip ?_ | refine T.exit ?_ | refine T.block ?_ | (apply T.cond_true; rfl) | (apply T.test; rfl; (exact isx); intro _; rotate_left; intro _; rotate_right) | (apply TL.skip; rfl; rfl; rfl) | (apply TL.val; rfl; rfl; (apply V.load_H; rfl; rfl; rfl; exact z4g 0 _ rfl)) | (apply TL.val; rfl; rfl; (apply V.load_H; rfl; rfl; rfl; exact z4g 1 _ rfl)) | (apply TL.callE (f := 36) [.agg (enc x.signed).toArray] Tryz.call36; (iterate 4 rfl); (exact fun _ hs => c_textHolds x.signed htin hs.sat hTg hxg.2.1)) | (apply TL.val; rfl; rfl; (apply V.load_H; rfl; rfl; rfl; exact z10g 0 _ rfl)) | (apply TL.val; rfl; rfl; (apply V.mlookup (mk := fun a : Bytes => strV a) (textC x.signed.c); rfl; rfl; rfl; exact keyS Tryz.underlying9; rfl; rfl; (exact lmem); exact hget)) | (apply TL.x; rfl; rfl; (apply X.mput (mk := fun a : Bytes => strV a) 5 (textC x.signed.c); rfl; rfl; exact keyS Tryz.underlying9; (iterate 4 rfl); exact mput_toZ (aPut_set hmem) rfl); intro _ _) | (apply TL.x; rfl; rfl; (apply X.buildSlice1 (d := 71); (iterate 8 rfl)); intro b71 _) | (apply TL.x; rfl; rfl; (apply X.append1 4; (iterate 9 rfl); exact List.Mem.head _; rfl; rfl; rfl; (refine Nat.le_trans (Nat.mul_le_mul_right _ (show _ ≤ 20001 by omega)) ?_; decide); omega); intro pa _) | (apply TL.x; rfl; rfl; (apply X.storeTo 5 [.slice (some ⟨pa.1, 0, none⟩) (got.length + 1) pa.2]; (iterate 10 rfl)); intro _ _) | (apply TL.val; rfl; rfl; (first | exact vpure | exact vread)) | (apply TL.guard; rfl; rfl; rfl; (exact isx); intro _; rotate_left; intro _; rotate_right)))
              all_goals (try contradiction)
              all_goals (try (exfalso; omega))
              refine N.round_out (i := 2) (e := .normal) trivial rfl fun w hs => ⟨true, (Hg, .slice (some ⟨pa.1, 0, none⟩) (got.length + 1) pa.2, got ++ [x.signed]), rfl, ?_, ?_⟩
              · rw [if_pos rfl]
                have hnw := hg1.new hk (by rw [hx]; exact ⟨hname, htyp⟩) (by rw [hx]; exact hmem)
                rw [hx] at hnw
                exact ⟨hnw, hg2⟩
              · refine (show St _ _ Hg [.any (b + 1) (.loop (recd fn a.tmps _ _ _ b .ready none)), .any b (.deferred (some [])), .row (.slice (some ⟨pa.1, 0, none⟩) (got.length + 1) pa.2) 44 5 (got ++ [x.signed]).length (encs (got ++ [x.signed])), .blk b11 34 [.slice (some ⟨pa.1, 0, none⟩) (got.length + 1) pa.2], .any bm (mObj (fun a : Bytes => strV a) (metZ (textsS (got ++ [x.signed]))))] w from ?_)
                rw [List.length_append, encs_snoc, textsS_snoc]
                exact hs.sub (.cons _ (.cons _ (List.Sublist.refl _)))
          · repeat (any_goals (first | refine T.seq ?_ | refine T.region ?_ | refine TL.nil ?_ | refine N.next ?_ | refine N.exit_same ?_ | refine N.exit_then ?_ | refine T.skip ?_ | refine T.exit ?_ | refine T.block ?_ | (apply T.cond_true; rfl) | (apply T.test; rfl; (exact isx); intro _; rotate_left; intro _; rotate_right) | (apply TL.skip; rfl; rfl; rfl) | (apply TL.val; rfl; rfl; (apply V.load_H; rfl; rfl; rfl; exact z4g 0 _ rfl)) | (apply TL.val; rfl; rfl; (apply V.load_H; rfl; rfl; rfl; exact z4g 1 _ rfl)) | (apply TL.val; rfl; rfl; (first | exact vpure | exact vread)) | (apply TL.guard; rfl; rfl; rfl; (exact isx); intro _; rotate_left; intro _; rotate_right)))
            all_goals (try contradiction)
            all_goals (try (exfalso; omega))
            refine N.round_out (i := 1) (e := .normal) trivial rfl fun w hs => ⟨true, (Hg, v, got), rfl, ?_, hs.sub (.cons _ (List.Sublist.refl _))⟩
            rw [if_pos rfl]
            exact ⟨hg1.skip hk (by rw [hx]; exact .inl fun hh => htyp hh.2), hg2⟩
        · repeat (any_goals (first | refine T.seq ?_ | refine T.region ?_ | refine TL.nil ?_ | refine N.next ?_ | refine N.exit_same ?_ | refine N.exit_then ?_ | refine T.skip ?_ | refine T.exit ?_ | refine T.block ?_ | (apply T.cond_true; rfl) | (apply T.test; rfl; (exact isx); intro _; rotate_left; intro _; rotate_right) | (apply TL.skip; rfl; rfl; rfl) | (apply TL.val; rfl; rfl; (apply V.load_H; rfl; rfl; rfl; exact z4g 0 _ rfl)) | (apply TL.val; rfl; rfl; (apply V.load_H; rfl; rfl; rfl; exact z4g 1 _ rfl)) | (apply TL.val; rfl; rfl; (first | exact vpure | exact vread)) | (apply TL.guard; rfl; rfl; rfl; (exact isx); intro _; rotate_left; intro _; rotate_right)))
          all_goals (try contradiction)
          all_goals (try (exfalso; omega))
          refine N.round_out (i := 1) (e := .normal) trivial rfl fun w hs => ⟨true, (Hg, v, got), rfl, ?_, hs.sub (.cons _ (List.Sublist.refl _))⟩
          rw [if_pos rfl]
          exact ⟨hg1.skip hk (by rw [hx]; exact .inl fun hh => hname hh.1), hg2⟩
    · rintro e w2 ⟨v, g, rfl, (hΦ | hF), hs2⟩
      · rw [hys] at hΦ
        exact ⟨g, v, .ready, rfl, hΦ, by simp, hs2⟩
      · exact hF.elim
  · rintro b ⟨Hg, v, got⟩ ⟨hg1, hg2⟩
    show N _ _ _ _ .normal _ _ _
    simp only at hg1 hg2
    unfold possL
    repeat (any_goals (first | refine T.seq ?_ | refine T.region ?_ | refine TL.nil ?_ | refine N.next ?_ | refine N.inBlock ?_ | refine T.ret ?_ | (apply TL.val; rfl; rfl; (first | exact vpure | exact vread))))
    refine N.marked (i := 0) rfl (N.ret2 rfl (by (exact rvx)) (by (exact rvx)) fun w hst => ?_)
    have hgood : ∀ y ∈ got, Enc.good Hg y := fun y hy => by
      obtain ⟨x, hx, _, rfl⟩ := hg1.each y hy
      exact (Enc.mono hg2 (ha2.els x (hyin x hx))).2.1
    obtain ⟨H', s, e1, e2, e3, e4, e5⟩ := (hst.sub (L' := [.row v 44 5 got.length (encs got)]) (.cons _ (.cons_cons _ (List.nil_sublist _)))).freezeRow rfl rfl hgood
    exact ⟨(H', s), ⟨⟨all, ha1, by rw [hys, e2]; exact hg1⟩, e3⟩, by rw [← e1], e5.fresh⟩
end Go.Proofs.YtepljgpikfeklaaGreatDoor
