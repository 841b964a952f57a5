import Derived.Test.YtepljgpikfeklaaGreatDoorQVW
import Derived.Test.YtepljgpikfeklaaGreatDoorQWName
import Derived.Test.YtepljgpikfeklaaGreatDoorQVI
namespace Go.Proofs.YtepljgpikfeklaaGreatDoor
set_option linter.unusedVariables false
set_option linter.unusedSimpArgs false
open Go Go.RowKit
open Enc (enc)
set_option maxRecDepth 20000
def pubL (b4 b5 b6 b7 bm : Nat) (o : Option (Nat × Nat)) (l : List HeldV) (t : Bool) : List Loc :=
  .row (rowOf o l.length) 96 8 l.length (encs l) :: .any bm (mObj (fun a : Bytes => strV a) (tMap (textsH l))) :: .blk b7 4 [.bool t] :: .blk b6 87 [rowOf o l.length] :: .blk b5 39 [intV 0] :: .blk b4 87 [.slice none 0 0] :: fRows l
structure PubSt (h : HistV) (z : Bytes) (k j : Nat) (Hc H : Hp) (o : Option (Nat × Nat)) (l : List HeldV) : Prop where
  to : PubTo h z k j H l
  nil : o = none ↔ l = []
  le : Hc.le H
theorem fewZ {h : HistV} (hf : FewH h) {H : Hp} (hg : h.copies.Good H) (z : Bytes) : (copiesZ h z).length ≤ 20 ∧ ∀ c ∈ copiesZ h z, c ∈ h.copies.els ∧ c.zone.sets.len ≤ 100 := by
  refine ⟨?_, fun c hc => ?_⟩
  · have h1 := hg.len
    have h2 := hf.copies
    have h3 := List.length_filter_le (fun c : CopyV => decide (c.zone.apex = z)) h.copies.els
    unfold copiesZ
    omega
  · have := (List.mem_filter.1 hc).1
    exact ⟨this, hf.sets c this⟩
theorem mput_toP {κ : Type} [DecidableEq κ] {L L' : List Loc} {i b : Nat} {mk : κ → Value} {a : κ} {v : Value} {l l' : List (κ × Value)} (h : aPut a v l = l') (hL : L.set i (.any b (mObj mk l')) = L') : L.set i (.any b (mObj mk (aPut a v l))) = L' := by rw [h]; exact hL
theorem fRow_more {z : Bytes} {sg : Signed} {b c : Nat} {fe : List SpanV} {sp : SpanV} {q : Slc SpanV} : fRow ⟨z, sg, mkF b c (fe ++ [sp]), q⟩ = .row (.slice (some ⟨b, 0, none⟩) (fe.length + 1) c) 134 2 (fe.length + 1) (encs fe ++ enc sp) := by
  unfold fRow mkF Slc.v
  simp only [List.length_append, List.length_cons, List.length_nil, Nat.zero_add, encs_snoc]
theorem enc_more {z : Bytes} {sg : Signed} {b c : Nat} {fe : List SpanV} {sp : SpanV} {q : Slc SpanV} {f : Slc SpanV} : putCells (enc (⟨z, sg, f, q⟩ : HeldV)) 6 [.slice (some ⟨b, 0, none⟩) (fe.length + 1) c] = enc (⟨z, sg, mkF b c (fe ++ [sp]), q⟩ : HeldV) := by
  have e : mkF b c (fe ++ [sp]) = ⟨some ⟨b, 0, none⟩, fe.length + 1, c, fe ++ [sp]⟩ := by
    unfold mkF
    simp only [List.length_append, List.length_cons, List.length_nil, Nat.zero_add]
  rw [e]; rfl
theorem pubL_new {b4 b5 b6 b7 bm : Nat} {pa : Nat × Nat} {l : List HeldV} {t : Bool} {z : Bytes} {sg : Signed} {s : SignedC} {f q : Slc SpanV} (h : sg.c = s) : pubL b4 b5 b6 b7 bm (some pa) (l ++ [⟨z, sg, f, q⟩]) t = .row (.slice (some ⟨pa.1, 0, none⟩) (l.length + 1) pa.2) 96 8 (l.length + 1) (encs (l ++ [⟨z, sg, f, q⟩])) :: .any bm (mObj (fun a : Bytes => strV a) (tMap (textsH l ++ [textC s]))) :: .blk b7 4 [.bool t] :: .blk b6 87 [.slice (some ⟨pa.1, 0, none⟩) (l.length + 1) pa.2] :: .blk b5 39 [intV 0] :: .blk b4 87 [.slice none 0 0] :: (fRows l ++ [fRow ⟨z, sg, f, q⟩]) := by
  have e : textsH (l ++ [(⟨z, sg, f, q⟩ : HeldV)]) = textsH l ++ [textC s] := by unfold textsH; rw [List.map_append, ← h]; rfl
  unfold pubL rowOf
  rw [e, fRows_snoc, List.length_append]
  rfl
theorem pubL_set {b4 b5 b6 b7 bm : Nat} {po : Nat × Nat} {l : List HeldV} {t : Bool} {z : Bytes} {sg : Signed} {f f' q q' : Slc SpanV} {i : Nat} (h : l[i]? = some ⟨z, sg, f, q⟩) : pubL b4 b5 b6 b7 bm (some po) (l.set i ⟨z, sg, f', q'⟩) t = .row (.slice (some ⟨po.1, 0, none⟩) l.length po.2) 96 8 l.length (encs (l.set i ⟨z, sg, f', q'⟩)) :: .any bm (mObj (fun a : Bytes => strV a) (tMap (textsH l))) :: .blk b7 4 [.bool t] :: .blk b6 87 [.slice (some ⟨po.1, 0, none⟩) l.length po.2] :: .blk b5 39 [intV 0] :: .blk b4 87 [.slice none 0 0] :: (fRows l).set i (fRow ⟨z, sg, f', q'⟩) := by
  have e : textsH (l.set i (⟨z, sg, f', q'⟩ : HeldV)) = textsH l := by
    unfold textsH
    rw [List.map_set]
    obtain ⟨hi, hx⟩ := List.getElem?_eq_some_iff.1 h
    refine List.ext_getElem? fun n => ?_
    rw [List.getElem?_set]
    split
    · rename_i hin
      subst hin
      rw [List.getElem?_map, h]
      simp [hi]
    · rfl
  unfold pubL rowOf
  rw [e, fRows_set, List.length_set]
structure NormOf (H : Hp) (x y : HeldV) : Prop where
  zone : y.zone = x.zone
  signed : y.signed = x.signed
  spans : y.spans = x.spans
  fresh : ∃ ys, SpansSorted (x.fresh.els.filter fullS) ys ∧ y.fresh.els = uniteC ys
  good : y.fresh.Good H
theorem NormOf.mono {H H' : Hp} {x y : HeldV} (hle : H.le H') (n : NormOf H x y) : NormOf H' x y := ⟨n.zone, n.signed, n.spans, n.fresh, n.good.mono hle⟩
structure Done (H : Hp) (l done : List HeldV) (k : Nat) : Prop where
  len : done.length = k
  «from» : ∀ y ∈ done, ∃ x ∈ l, NormOf H x y
  to : ∀ x ∈ l.take k, ∃ y ∈ done, NormOf H x y
theorem Done.more {H H' : Hp} {l done : List HeldV} {k : Nat} {x y : HeldV} (d : Done H l done k) (hx : l[k]? = some x) (n : NormOf H' x y) (hle : H.le H') : Done H' l (done ++ [y]) (k + 1) := by
  obtain ⟨hk, hxe⟩ := List.getElem?_eq_some_iff.1 hx
  refine ⟨by rw [List.length_append, d.len]; rfl, fun u hu => ?_, fun u hu => ?_⟩
  · rcases List.mem_append.1 hu with hu | hu
    · obtain ⟨v, hv, hn⟩ := d.from u hu
      exact ⟨v, hv, hn.mono hle⟩
    · rw [List.mem_singleton.1 hu]
      exact ⟨x, List.mem_of_getElem? hx, n⟩
  · rw [List.take_succ_eq_append_getElem hk] at hu
    rcases List.mem_append.1 hu with hu | hu
    · obtain ⟨v, hv, hn⟩ := d.to u hu
      exact ⟨v, List.mem_append_left _ hv, hn.mono hle⟩
    · rw [List.mem_singleton.1 hu, hxe]
      exact ⟨y, List.mem_append_right _ (List.mem_singleton.2 rfl), n⟩
def PubOut (h : HistV) (z : Bytes) (H : Hp) (out : List HeldV) : Prop := ∃ l H0, PubTo h z (copiesZ h z).length 0 H0 l ∧ H0.le H ∧ Done H l out l.length
set_option maxHeartbeats 32000000 in
theorem c_Published (h : HistV) (z : Bytes) (hh : HistOK h) (hfew : FewH h) (hn : nameOK z = true) (hz : ∃ c ∈ h.copies.els, c.zone.apex = z) {H : Hp} {w : World} (hs : Sat H w) (hR : Rules H) (hT : Pow10 H) (hgd : Enc.good H h) : Calls Tryz.prog 72 #[.agg (enc h).toArray, strV z] w (RetF w H (fun p : Hp × Slc HeldV => PubOut h z p.1 p.2.els ∧ p.2.Good p.1) (fun p => .tuple #[p.2.v, intV 0]) (fun p => p.1)) := by
  have hzl : LenOk z := Nat.le_trans (name_len60 hn) (by decide)
  refine T.enterM (vs := [.agg (enc h).toArray, strV z]) (H := H) Tryz.func72 rfl rfl rfl hs ?_
  repeat (any_goals (first | refine T.seq ?_ | refine T.region ?_ | refine TL.nil ?_ | refine N.next ?_ | refine T.skip ?_ | refine T.block ?_ | (apply T.cond_false; rfl) | (apply TL.x; rfl; rfl; (apply X.box (d := 2); rfl; rfl; rfl); intro b2 _; apply TL.frzZ 0; rfl; intro H1 z2 hle1; have hgd := Enc.mono hle1 hgd; have hR := Rules.mono hle1 hR; have hT := Pow10.mono hle1 hT; skip) | (apply TL.x; rfl; rfl; (apply X.box (d := 3); rfl; rfl; rfl); intro b3 _; apply TL.frzZ 0; rfl; intro H2 z3 hle2; have hgd := Enc.mono hle2 hgd; have hR := Rules.mono hle2 hR; have hT := Pow10.mono hle2 hT; have z2 := Hp.cells_le hle2 z2) | (apply TL.x; rfl; rfl; (apply X.alloc (d := 4); rfl; rfl; rfl); intro b4 _) | (apply TL.x; rfl; rfl; (apply X.alloc (d := 5); rfl; rfl; rfl); intro b5 _) | (apply TL.x; rfl; rfl; (apply X.alloc (d := 6); rfl; rfl; rfl); intro b6 _) | (apply TL.x; rfl; rfl; (apply X.alloc (d := 7); rfl; rfl; rfl); intro b7 _) | (apply TL.val; rfl; rfl; (apply V.load_H; rfl; rfl; rfl; exact z3 0 _ rfl)) | (apply TL.val; rfl; rfl; (apply V.load_H_row; rfl; rfl; rfl; exact z2; rfl)) | (apply TL.callE (f := 32) [.agg (enc h).toArray] Tryz.call32; (iterate 4 rfl); (exact fun _ hs => c_historyValid h hh hs.sat hR hgd)) | (apply TL.callE (f := 50) [strV z] Tryz.call50; (iterate 4 rfl); (exact fun _ hs => hn ▸ c_nameValid z _ _ hs.sat hzl)) | (apply TL.x; rfl; rfl; (apply X.storeTo 0 [.bool false]; (iterate 10 rfl)); intro _ _) | (apply TL.x; rfl; rfl; (apply X.makeMap (d := 24) (fun a : Bytes => strV a); rfl); intro bm _) | (apply TL.x; rfl; rfl; (apply X.alloc (d := 8); rfl; rfl; rfl); intro b8 _) | (apply TL.x; rfl; rfl; (apply X.storeTo 0 [.map (some bm)]; (iterate 10 rfl)); intro _ _; apply TL.frzZ 0; rfl; intro H3 z8 hle3; have hgd := Enc.mono hle3 hgd; have hR := Rules.mono hle3 hR; have hT := Pow10.mono hle3 hT; have z2 := Hp.cells_le hle3 z2; have z3 := Hp.cells_le hle3 z3) | (apply TL.val; rfl; rfl; ((apply V.makeFunc (vs := []) (us := [.pointer (some ⟨b3, 0, none⟩)]) <;> rfl))) | (apply TL.x; rfl; rfl; (apply X.callFE (f := 127) [.agg (enc h).toArray, .func (.func 128) #[] #[.pointer (some ⟨b3, 0, none⟩)]] Tryz.call127; rfl; rfl; rfl; exact (fun _ hs => c_copies h (.func (.func 128) #[] #[.pointer (some ⟨b3, 0, none⟩)]) rfl rfl hs.sat)); rintro ⟨Hc, bh, bf⟩ ⟨⟨hp0, hp1, hp2⟩, hp3⟩; have hgd := Enc.mono hp0 hgd; have hR := Rules.mono hp0 hR; have hT := Pow10.mono hp0 hT; have z2 := Hp.cells_le hp0 z2; have z3 := Hp.cells_le hp0 z3; have z8 := Hp.cells_le hp0 z8) | (apply TL.val; rfl; rfl; (first | exact vpure | exact vread))))
  all_goals (try contradiction)
  have hzone : ∀ c ∈ h.copies.els, ZonedR c.zone.c := fun c hc => by
    obtain ⟨j, hj, rfl⟩ := List.mem_iff_getElem.1 hc
    exact (hh.each j hj hj).1.zone
  obtain ⟨f1, f2⟩ := fewZ hfew hgd.2.1 z
  have hd3 : h.copies.Good Hc := hgd.2.1
  refine T.nilRow 96 8 ?_
  refine T.rangeFunc (G := Hp × Option (Nat × Nat) × List HeldV × Bool) (fun _ => .normal) (fun g => g.1) (fun g => pubL b4 b5 b6 b7 bm g.2.1 g.2.2.1 g.2.2.2) (fun g => PubSt h z (copiesZ h z).length 0 Hc g.1 g.2.1 g.2.2.1 ∧ g.2.2.2 = true) rfl Tryz.call168 (fun _ _ => trivial) ?_ ?_
  · intro fn a b hf w1 hs1
    have hs1' := hs1.sub (L' := .any (b + 1) (.loop (recd fn a.tmps _ _ _ b .ready none)) :: .any b (.deferred (some [])) :: pubL b4 b5 b6 b7 bm none [] false) (List.Sublist.refl _)
    refine (c_copies1 h z bh bf b3 hp1 hp2 z3 hd3 (G := Hp × Option (Nat × Nat) × List HeldV × Bool) (fun k g => PubSt h z k 0 Hc g.1 g.2.1 g.2.2.1 ∧ (0 < k → g.2.2.2 = true)) (fun _ => False) (fun g => g.1) (fun g => .any (b + 1) (.loop (recd fn a.tmps _ _ _ b .ready none)) :: .any b (.deferred (some [])) :: pubL b4 b5 b6 b7 bm g.2.1 g.2.2.1 g.2.2.2) (fun k g h => h.1.le) ?_ (Hc, none, [], false) ⟨⟨.start, by simp, .refl _⟩, fun h => by (exact absurd h (Nat.lt_irrefl _))⟩ hs1').mono ?_
    · rintro k ⟨Hg, o, l, t⟩ ⟨hg1, hg2⟩ hk w2 hs2
      simp only at hg1 hg2 hs2
      obtain ⟨x, hx⟩ : ∃ x, (copiesZ h z)[k]'hk = x := ⟨_, rfl⟩
      have hxm := List.getElem_mem hk
      rw [hx] at hxm ⊢
      obtain ⟨hxc, hx100⟩ := f2 x hxm
      have hdg := hd3.mono hg1.le
      have hxg := hdg.els x hxc
      have z8 := Hp.cells_le hg1.le z8
      have z3 := Hp.cells_le hg1.le z3
      have hTg := Pow10.mono hg1.le hT
      refine yieldAt_ofG (j := 1) (G := Nat) (fun b9 => [(2, .pointer (some ⟨b2, 0, none⟩)), (3, .pointer (some ⟨b3, 0, none⟩)), (4, .pointer (some ⟨b4, 0, none⟩)), (5, .pointer (some ⟨b5, 0, none⟩)), (6, .pointer (some ⟨b6, 0, none⟩)), (7, .pointer (some ⟨b7, 0, none⟩)), (8, .pointer (some ⟨b8, 0, none⟩)), (9, .pointer (some ⟨b9, 0, none⟩))]) (fun b9 => .blk b9 38 (enc x) :: .any (b + 1) (.loop (recd fn a.tmps _ _ _ b .ready none)) :: .any b (.deferred (some [])) :: pubL b4 b5 b6 b7 bm o l t) (i := 0) hs2 rfl (fun _ => rfl) rfl _ (Fr.round1 hf rfl) ?_ ?_
      · repeat (any_goals (first | refine T.region ?_ | refine TL.nil ?_ | (apply TL.x; rfl; rfl; (apply X.storeTo 0 (enc x); (iterate 10 rfl)); intro _ _) | (apply TL.x; rfl; rfl; (first | exact xgrow | exact xput); intro _ _)))
        all_goals (try contradiction)
        rename_i b9 _ _ _
        exact N.bothG b9 (by (repeat (first | exact True.intro | refine ⟨rfl, ?_⟩ | refine Sub.int rfl (by omega) ?_))) (List.Sublist.refl _)
      · intro b9
        simp only [List.set_cons_succ, List.set_cons_zero]
        unfold pubL
        repeat (any_goals (first | refine T.seq ?_ | refine T.region ?_ | refine TL.nil ?_ | refine N.next ?_ | refine T.block ?_ | (apply TL.x; rfl; rfl; (apply X.storeTo 5 [.bool true]; (iterate 10 rfl)); intro _ _) | (apply TL.val; rfl; rfl; (first | exact vpure | exact vread))))
        all_goals (try contradiction)
        have hsg0 := hxg.2.2.2.2
        refine T.loop (G := Hp × Option (Nat × Nat) × List HeldV × Nat) (fun g => [(2, .pointer (some ⟨b2, 0, none⟩)), (3, .pointer (some ⟨b3, 0, none⟩)), (4, .pointer (some ⟨b4, 0, none⟩)), (5, .pointer (some ⟨b5, 0, none⟩)), (6, .pointer (some ⟨b6, 0, none⟩)), (7, .pointer (some ⟨b7, 0, none⟩)), (8, .pointer (some ⟨b8, 0, none⟩)), (9, .pointer (some ⟨b9, 0, none⟩)), (31, x.zone.sets.v), (32, intV x.zone.sets.len), (33, intV g.2.2.2)]) (fun g => g.1) (fun g => .blk b9 38 (enc x) :: .any (b + 1) (.loop (recd fn a.tmps _ _ _ b .busy none)) :: .any b (.deferred (some [])) :: pubL b4 b5 b6 b7 bm g.2.1 g.2.2.1 true) (fun g => g.2.2.2 ≤ x.zone.sets.len ∧ PubSt h z k g.2.2.2 Hc g.1 g.2.1 g.2.2.1 ∧ Hg.le g.1) (fun g => x.zone.sets.len - g.2.2.2) (Hg, o, l, 0) ⟨Nat.zero_le _, hg1, .refl _⟩ (by (repeat (first | exact True.intro | refine ⟨rfl, ?_⟩ | refine Sub.int rfl (by omega) ?_))) rfl (by unfold pubL; exact List.Sublist.refl _) ?_
        clear hg1 hs2 hg2
        rintro ⟨Hk, o, l, j⟩ ⟨hj, hst, hlek⟩
        simp only at hj hst hlek ⊢
        have hsg := hsg0.mono hlek
        have hsl := hsg.len
        have hsm := hsg.lim
        have z8k := Hp.cells_le hlek z8
        have z3k := Hp.cells_le hlek z3
        have hTk := Pow10.mono hlek hTg
        have hll := hst.to.len
        unfold pubL
        by_cases hlt : j < x.zone.sets.len
        · have hjl : j < x.zone.sets.els.length := by omega
          have hrow := hsg.row (k := j) hlt
          have hsgd := hsg.els _ (List.getElem_mem hjl)
          have hvs := zoned_valid (hzone x hxc) hxg.2.2.2 (List.getElem_mem hjl)
          have hold := fun {H' : Hp} (hle : Hk.le H') {i : Nat} {y : HeldV} (hi : l[i]? = some y) (ht : textC y.signed.c = textC (x.zone.sets.els[j]).c) (b c : Nat) => hst.to.old hle hk (by rw [hx]; exact hjl) hi (by simp only [hx]; exact ht) b c
          have hnew := fun {H' : Hp} (hle : Hk.le H') (sg : Signed) (he : sg.c = (x.zone.sets.els[j]).c) (hg : Enc.good H' sg) (b c : Nat) => hst.to.new hle hk (by rw [hx]; exact hjl) sg (by simp only [hx]; exact he) hg b c
          simp only [hx] at hold hnew
          obtain ⟨s, hs⟩ : ∃ s, x.zone.sets.els[j]'hjl = s := ⟨_, rfl⟩
          rw [hs] at hsgd hvs
          simp only [hs] at hold hnew
          try rw [hs] at hrow
          have hs1000 : s.set.data.len ≤ 1000 := by have h1 := hsgd.1.2.2.2.len; have h2 : s.set.data.els.length ≤ 1000 := hvs.textIn.data; omega
          have hs1001 : s.sigs.len ≤ 1000 := by have h1 := hsgd.2.len; have h2 : s.sigs.els.length ≤ 1000 := hvs.textIn.sigs; omega
          have hlj : j ≤ 100 := by omega
          have hlk : k < 20 := by omega
          rcases tFind (textC s.c) (textsH l) with ⟨hf0, hf1⟩ | ⟨i, hf0, hf1⟩
          · obtain ⟨hge, hpu⟩ := tGet_none hf0 (intV (l.length : Int))
            have hget : (aGet (textC s.c) (tMap (textsH l))).getD (Value.int .i64 0) = intV 0 := by rw [hge]; rfl
            have hsome : (aGet (textC s.c) (tMap (textsH l))).isSome = false := by rw [hge]; rfl
            have hput : aPut (textC s.c) (intV (l.length : Int)) (tMap (textsH l)) = tMap (textsH l ++ [textC s.c]) := by rw [hpu, tMap_snoc]; unfold textsH; rw [List.length_map]
            refine T.nilRow 134 2 ?_
            refine T.perm _ (List.perm_append_singleton _ (.blk b9 38 (enc x) :: .any (b + 1) (.loop (recd fn a.tmps _ _ _ b .busy none)) :: .any b (.deferred (some [])) :: pubL b4 b5 b6 b7 bm o l true)).symm ?_
            unfold pubL
            simp only [List.cons_append]
            repeat (any_goals (first | (apply T.seqU 20; rfl) | refine T.region ?_ | (apply T.regionD wide; rfl) | refine TL.nil ?_ | refine N.next ?_ | refine N.inBlock ?_ | refine N.exit_same ?_ | refine N.exit_then ?_ | refine T.skip ?_ | refine T.exit ?_ | refine T.block ?_ | (apply T.cond_true; rfl) | (apply T.test; rfl; (exact isx); intro _; rotate_left; intro _; rotate_right) | (apply TL.val; rfl; rfl; (apply V.elem (j := j); (iterate 6 rfl); omega; exact hsg.at_ (by omega))) | (apply TL.val; rfl; rfl; (apply V.load_H_row; rfl; rfl; rfl; exact hrow; rfl)) | (apply TL.x; rfl; rfl; (apply X.alloc (d := 11); rfl; rfl; rfl); intro b11 _) | (apply TL.x; rfl; rfl; (apply X.storeTo 0 (enc s); (iterate 10 rfl)); intro _ _) | (apply TL.callE (f := 129) [.agg (enc s).toArray] Tryz.call129; (iterate 4 rfl); (exact fun _ hs => c_textHist s hvs.textIn hs.sat hTk hsgd)) | (apply TL.val; rfl; rfl; (apply V.load_H; rfl; rfl; rfl; exact z8k 0 _ rfl)) | (apply GT.read; (iterate 4 rfl); (apply V.load_H; rfl; rfl; rfl; exact z3k 0 _ rfl); decide +kernel) | (apply TL.val; rfl; rfl; (apply V.mlookupOk (mk := fun a : Bytes => strV a) (textC s.c) (c := intV 0) (f := false); rfl; rfl; rfl; exact keyS Tryz.underlying9; rfl; rfl; (exact lmem); exact hget; exact hsome)) | (apply TL.val; rfl; rfl; (apply V.len_row; (iterate 4 rfl); (exact lmem))) | (apply TL.x; rfl; rfl; (apply X.mput (mk := fun a : Bytes => strV a) 5 (textC s.c); rfl; rfl; exact keyS Tryz.underlying9; (iterate 4 rfl); exact mput_toP hput rfl); intro _ _) | (apply GS.grow; rfl; rfl; (apply X.callFE (f := 130) [.agg (enc s).toArray] Tryz.call130; rfl; rfl; rfl; exact (fun _ hs => c_hclone s hs.sat hsgd hs1000 hs1001)); rintro ⟨Hp1, sg⟩ ⟨⟨hq1, hq2⟩, hq3⟩) | (apply GT.pure; (iterate 4 rfl); (apply V.build; (iterate 6 rfl)); decide +kernel) | (apply GS.grow; rfl; rfl; (apply X.buildSlice1 (d := 57); (iterate 8 rfl)); intro b57 _) | (apply GS.eff; rfl; decide +kernel; rfl; (apply X.append1 5; (iterate 9 rfl); exact List.Mem.head _; rfl; rfl; rfl; (refine Nat.le_trans (Nat.mul_le_mul_right _ (show _ ≤ 20001 by omega)) ?_; decide); omega); intro pa _) | (apply GS.eff; rfl; decide +kernel; rfl; (apply X.storeTo 8 [.slice (some ⟨pa.1, 0, none⟩) (l.length + 1) pa.2]; (iterate 10 rfl)); intro _ _) | (apply TL.val; rfl; rfl; (first | exact vpure | exact vread)) | (apply GT.read; (iterate 4 rfl); (first | exact vpure | exact vread); decide +kernel) | (apply GT.done; decide +kernel; apply N.ofQ) | (apply GT.adv; rfl) | (apply GT.fork1; decide +kernel)))
            all_goals (try contradiction)
            all_goals (try (exfalso; omega))
            have hx0 : (l ++ [(⟨z, sg, Slc.nil _, Slc.nil _⟩ : HeldV)])[l.length]? = some ⟨z, sg, Slc.nil _, Slc.nil _⟩ := get_end _ _
            have hv : (encs (l ++ [(⟨z, sg, Slc.nil _, Slc.nil _⟩ : HeldV)]))[0 + l.length * 8 + 6]? = some (.slice none 0 0) := by
              rw [show 0 + l.length * 8 + 6 = l.length * Enc.size HeldV + 6 by show _ = l.length * 8 + 6; omega]
              exact encs_get _ l.length 6 _ _ hx0 rfl
            have hat : (fRows l ++ [Loc.row (.slice none 0 0) 134 2 0 []])[l.length]? = some (Loc.row (.slice none 0 0) 134 2 0 []) := by rw [← fRows_len l]; exact get_end _ _
            have hset : ∀ y, (fRows l ++ [Loc.row (.slice none 0 0) 134 2 0 []]).set l.length y = fRows l ++ [y] := fun y => by rw [← fRows_len l]; exact set_end _ _ _
            refine T.weaken [(2, .pointer (some ⟨b2, 0, none⟩)), (3, .pointer (some ⟨b3, 0, none⟩)), (4, .pointer (some ⟨b4, 0, none⟩)), (5, .pointer (some ⟨b5, 0, none⟩)), (6, .pointer (some ⟨b6, 0, none⟩)), (7, .pointer (some ⟨b7, 0, none⟩)), (8, .pointer (some ⟨b8, 0, none⟩)), (9, .pointer (some ⟨b9, 0, none⟩)), (13, intV l.length), (31, x.zone.sets.v), (32, intV x.zone.sets.len), (33, intV j)] (.blk b11 44 (enc s) :: .blk b9 38 (enc x) :: .any (b + 1) (.loop (recd fn a.tmps _ _ _ b .busy none)) :: .any b (.deferred (some [])) :: .row (.slice (some ⟨pa.1, 0, none⟩) (l.length + 1) pa.2) 96 8 (l.length + 1) (encs (l ++ [(⟨z, sg, Slc.nil _, Slc.nil _⟩ : HeldV)])) :: .any bm (mObj (fun a : Bytes => strV a) (tMap (textsH l ++ [textC s.c]))) :: .blk b7 4 [.bool true] :: .blk b6 87 [.slice (some ⟨pa.1, 0, none⟩) (l.length + 1) pa.2] :: .blk b5 39 [intV 0] :: .blk b4 87 [.slice none 0 0] :: (fRows l ++ [.row (.slice none 0 0) 134 2 0 []])) (by (repeat (first | exact True.intro | refine ⟨rfl, ?_⟩ | refine Sub.int rfl (by omega) ?_))) (by rw [encs_snoc]; exact List.Sublist.cons _ (List.Sublist.refl _)) ?_
            repeat (any_goals (first | (apply T.regionDS (id := 20) [.blk b9 38 (enc x), .row (.slice (some ⟨pa.1, 0, none⟩) (l.length + 1) pa.2) 96 8 (l.length + 1) (encs (l ++ [(⟨z, sg, Slc.nil _, Slc.nil _⟩ : HeldV)])), .blk b6 87 [.slice (some ⟨pa.1, 0, none⟩) (l.length + 1) pa.2]] wide; rfl; (repeat (first | exact List.Sublist.refl _ | exact List.nil_sublist _ | apply List.Sublist.cons_cons | apply List.Sublist.cons))) | refine T.seq ?_ | refine T.region ?_ | refine TL.nil ?_ | refine N.next ?_ | refine N.inBlock ?_ | refine T.skip ?_ | (apply T.test; rfl; (exact isx); intro _; rotate_left; intro _; rotate_right) | (apply TL.val; rfl; rfl; (apply V.len; (iterate 4 rfl))) | (apply GT.pure; (iterate 4 rfl); (apply V.elem (j := l.length); (iterate 6 rfl); omega; rfl); decide +kernel) | (apply GT.read; (iterate 4 rfl); (apply V.load_own; rfl; rfl; rfl; (exact lmem); exact hv); decide +kernel) | (apply GT.pure; (iterate 4 rfl); (apply V.build; (iterate 6 rfl)); decide +kernel) | (apply GS.grow; rfl; rfl; (apply X.buildSlice1 (d := 74); (iterate 8 rfl)); intro b74 _) | (apply GS.effS; rfl; rfl; (apply X.append1 (l.length + 11); (iterate 7 rfl); exact hat; rfl; exact List.Mem.head _; rfl; rfl; rfl; (refine Nat.le_trans (Nat.mul_le_mul_right _ (show _ ≤ 20001 by omega)) ?_; decide); omega); (intro _; rfl); (intro _; (repeat (first | exact List.Sublist.refl _ | exact List.nil_sublist _ | apply List.Sublist.cons_cons | apply List.Sublist.cons))); intro p3 _) | (apply GS.eff; rfl; decide +kernel; rfl; (exact X.storeRowE 5 (vs := [.slice (some ⟨p3.1, 0, none⟩) (([] : List SpanV).length + 1) p3.2]) (ys := encs (l ++ [(⟨z, sg, mkF p3.1 p3.2 ([] ++ [(⟨x.frm, x.til⟩ : SpanV)]), Slc.nil _⟩ : HeldV)])) rfl rfl rfl rfl rfl rfl rfl (by show 0 + l.length * 8 + 6 + 1 ≤ (l.length + 1) * 8; omega) ((encs_put hx0 (by show 6 + 1 ≤ 8; omega) enc_more (by show 0 + l.length * 8 + 6 = l.length * 8 + 6; omega)).trans (congrArg encs (set_end _ _ _)))); intro _ _) | (apply TL.val; rfl; rfl; (first | exact vpure | exact vread)) | (apply GT.pure; (iterate 4 rfl); (first | exact vpure); decide +kernel) | (apply GT.read; (iterate 4 rfl); (first | exact vpure | exact vread); decide +kernel) | (apply GT.done; decide +kernel; apply N.ofQ) | (apply GT.adv; rfl) | (apply GT.fork1; decide +kernel)))
            all_goals (try contradiction)
            all_goals (try (exfalso; omega))
            refine N.round (Hp1, some pa, l ++ [(⟨z, sg, mkF p3.1 p3.2 ([] ++ [(⟨x.frm, x.til⟩ : SpanV)]), Slc.nil _⟩ : HeldV)], j + 1) ⟨by show j + 1 ≤ _; omega, ⟨hnew hq3 sg hq1 hq2 _ _, by simp, hst.le.trans hq3⟩, hlek.trans hq3⟩ (by show x.zone.sets.len - (j + 1) < x.zone.sets.len - j; omega) (by (repeat (first | exact True.intro | refine ⟨rfl, ?_⟩ | refine Sub.int rfl (by omega) ?_))) rfl ?_
            refine (?_ : List.Sublist (_ :: _ :: _ :: pubL b4 b5 b6 b7 bm (some pa) (l ++ [(⟨z, sg, mkF p3.1 p3.2 ([] ++ [(⟨x.frm, x.til⟩ : SpanV)]), Slc.nil _⟩ : HeldV)]) true) _)
            rw [pubL_new hq1]
            simp only [List.set_cons_succ, List.set_cons_zero, hset]
            exact .cons _ (.cons _ (List.Sublist.refl _))
          · have hget : (aGet (textC s.c) (tMap (textsH l))).getD (Value.int .i64 0) = intV i := by rw [tGet_some hf0]; rfl
            have hsome : (aGet (textC s.c) (tMap (textsH l))).isSome = true := by rw [tGet_some hf0]; rfl
            obtain ⟨y0, hi, hty⟩ : ∃ y0, l[i]? = some y0 ∧ textC y0.signed.c = textC s.c := by
              unfold textsH at hf1
              rw [List.getElem?_map] at hf1
              cases hli : l[i]? with
              | none => rw [hli] at hf1; cases hf1
              | some y => rw [hli] at hf1; exact ⟨y, rfl, Option.some.inj hf1⟩
            have hil := (List.getElem?_eq_some_iff.1 hi).1
            have hx0 := hst.to.each y0 (List.mem_of_getElem? hi)
            have hold' := fun {H' : Hp} (hle : Hk.le H') (b c : Nat) => hold hle hi hty b c
            obtain ⟨po, rfl⟩ : ∃ po, o = some po := by
              cases o with
              | none => have := hst.nil.1 rfl; rw [this] at hil; exact absurd hil (Nat.not_lt_zero _)
              | some po => exact ⟨po, rfl⟩
            obtain ⟨z0, sg0, fr0, sp0⟩ := y0
            have hfl := hx0.flen
            obtain ⟨b0, c0, fe, rfl⟩ : ∃ b0 c0 fe, fr0 = mkF b0 c0 fe := by
              obtain ⟨b0, c0, e⟩ := hx0.shape
              exact ⟨b0, c0, _, e⟩
            replace hfl : fe.length ≤ 100 * k + j := hfl
            replace hold' : ∀ {H' : Hp} (_ : Hk.le H') (b c : Nat), PubTo h z k (j + 1) H' (l.set i ⟨z0, sg0, mkF b c (fe ++ [(⟨x.frm, x.til⟩ : SpanV)]), sp0⟩) := hold'
            have hv : (encs l)[0 + i * 8 + 6]? = some (.slice (some ⟨b0, 0, none⟩) fe.length c0) := by
              rw [show 0 + i * 8 + 6 = i * Enc.size HeldV + 6 by show _ = i * 8 + 6; omega]
              exact encs_get _ i 6 _ _ hi rfl
            have hat : (fRows l)[i]? = some (Loc.row (.slice (some ⟨b0, 0, none⟩) fe.length c0) 134 2 fe.length (encs fe)) := fRows_at hi
            repeat (any_goals (first | (apply T.regionDS (id := 20) [.blk b9 38 (enc x), .row (.slice (some ⟨po.1, 0, none⟩) l.length po.2) 96 8 l.length (encs l), .blk b6 87 [.slice (some ⟨po.1, 0, none⟩) l.length po.2]] wide; rfl; (repeat (first | exact List.Sublist.refl _ | exact List.nil_sublist _ | apply List.Sublist.cons_cons | apply List.Sublist.cons))) | refine T.seq ?_ | refine T.region ?_ | refine TL.nil ?_ | refine N.next ?_ | refine N.inBlock ?_ | refine N.exit_same ?_ | refine N.exit_then ?_ | refine T.skip ?_ | refine T.exit ?_ | refine T.block ?_ | (apply T.cond_false; rfl) | (apply T.test; rfl; (exact isx); intro _; rotate_left; intro _; rotate_right) | (apply TL.val; rfl; rfl; (apply V.elem (j := j); (iterate 6 rfl); omega; exact hsg.at_ (by omega))) | (apply TL.val; rfl; rfl; (apply V.load_H_row; rfl; rfl; rfl; exact hrow; rfl)) | (apply TL.x; rfl; rfl; (apply X.alloc (d := 11); rfl; rfl; rfl); intro b11 _) | (apply TL.x; rfl; rfl; (apply X.storeTo 0 (enc s); (iterate 10 rfl)); intro _ _) | (apply TL.callE (f := 129) [.agg (enc s).toArray] Tryz.call129; (iterate 4 rfl); (exact fun _ hs => c_textHist s hvs.textIn hs.sat hTk hsgd)) | (apply TL.val; rfl; rfl; (apply V.load_H; rfl; rfl; rfl; exact z8k 0 _ rfl)) | (apply TL.val; rfl; rfl; (apply V.mlookupOk (mk := fun a : Bytes => strV a) (textC s.c) (c := intV i) (f := true); rfl; rfl; rfl; exact keyS Tryz.underlying9; rfl; rfl; (exact lmem); exact hget; exact hsome)) | (apply TL.val; rfl; rfl; (apply V.len; (iterate 4 rfl))) | (apply GT.pure; (iterate 4 rfl); (apply V.elem (j := i); (iterate 6 rfl); omega; rfl); decide +kernel) | (apply GT.read; (iterate 4 rfl); (apply V.load_own; rfl; rfl; rfl; (exact lmem); exact hv); decide +kernel) | (apply GT.pure; (iterate 4 rfl); (apply V.build; (iterate 6 rfl)); decide +kernel) | (apply GS.grow; rfl; rfl; (apply X.buildSlice1 (d := 74); (iterate 8 rfl)); intro b74 _) | (apply GS.effS; rfl; rfl; (apply X.append1 (i + 11); (iterate 7 rfl); exact hat; rfl; exact List.Mem.head _; rfl; rfl; rfl; (refine Nat.le_trans (Nat.mul_le_mul_right _ (show _ ≤ 20001 by omega)) ?_; decide); omega); (intro _; rfl); (intro _; (repeat (first | exact List.Sublist.refl _ | exact List.nil_sublist _ | apply List.Sublist.cons_cons | apply List.Sublist.cons))); intro p3 _) | (apply GS.eff; rfl; decide +kernel; rfl; (exact X.storeRowE 5 (vs := [.slice (some ⟨p3.1, 0, none⟩) (fe.length + 1) p3.2]) (ys := encs (l.set i ⟨z0, sg0, mkF p3.1 p3.2 (fe ++ [(⟨x.frm, x.til⟩ : SpanV)]), sp0⟩)) rfl rfl rfl rfl rfl rfl rfl (by show 0 + i * 8 + 6 + 1 ≤ l.length * 8; omega) (encs_put hi (by show 6 + 1 ≤ 8; omega) enc_more (by show 0 + i * 8 + 6 = i * 8 + 6; omega))); intro _ _) | (apply TL.val; rfl; rfl; (first | exact vpure | exact vread)) | (apply GT.pure; (iterate 4 rfl); (first | exact vpure); decide +kernel) | (apply GT.read; (iterate 4 rfl); (first | exact vpure | exact vread); decide +kernel) | (apply GT.done; decide +kernel; apply N.ofQ) | (apply GT.adv; rfl) | (apply GT.fork1; decide +kernel)))
            all_goals (try contradiction)
            all_goals (try (exfalso; omega))
            refine N.round (Hk, some po, l.set i ⟨z0, sg0, mkF p3.1 p3.2 (fe ++ [(⟨x.frm, x.til⟩ : SpanV)]), sp0⟩, j + 1) ⟨by show j + 1 ≤ _; omega, ⟨hold' (.refl _) _ _, by (constructor; · intro hc; cases hc); intro hc; (have := congrArg List.length hc; rw [List.length_set] at this; exact absurd this (by simp only [List.length_nil]; omega)), hst.le⟩, hlek⟩ (by show x.zone.sets.len - (j + 1) < x.zone.sets.len - j; omega) (by (repeat (first | exact True.intro | refine ⟨rfl, ?_⟩ | refine Sub.int rfl (by omega) ?_))) rfl ?_
            refine (?_ : List.Sublist (_ :: _ :: _ :: pubL b4 b5 b6 b7 bm (some po) (l.set i ⟨z0, sg0, mkF p3.1 p3.2 (fe ++ [(⟨x.frm, x.til⟩ : SpanV)]), sp0⟩) true) _)
            rw [pubL_set hi]
            simp only [List.set_cons_succ, List.set_cons_zero, fRow_more]
            exact .cons _ (.cons _ (List.Sublist.refl _))
        · repeat (any_goals (first | refine T.seq ?_ | refine T.region ?_ | refine TL.nil ?_ | refine N.next ?_ | refine N.inBlock ?_ | refine N.exit_same ?_ | refine N.exit_then ?_ | refine T.skip ?_ | refine T.exit ?_ | refine T.block ?_ | (apply T.test; rfl; (exact isx); intro _; rotate_left; intro _; rotate_right) | (apply TL.val; rfl; rfl; (first | exact vpure | exact vread)) | (apply TL.x; rfl; rfl; (first | exact xgrow | exact xput); intro _ _)))
          all_goals (try (exfalso; omega))
          refine N.round_out (i := 1) (e := .normal) trivial rfl fun w hs => ⟨true, (Hk, o, l, true), rfl, ?_, ?_⟩
          · rw [if_pos rfl]
            have hje : j = ((copiesZ h z)[k]'hk).zone.sets.els.length := by rw [hx]; omega
            exact ⟨⟨hst.to.next hk hje (by omega), hst.nil, hst.le⟩, fun _ => rfl⟩
          · exact hs.sub (.cons _ (List.Sublist.refl _))
    · rintro e w2 ⟨v, g, rfl, (hΦ | hF), hs2⟩
      · refine ⟨g, v, .ready, rfl, ⟨hΦ.1, hΦ.2 ?_⟩, by simp, hs2⟩
        obtain ⟨c0, hc0, hcz⟩ := hz
        exact List.length_pos_of_mem (List.mem_filter.2 ⟨hc0, decide_eq_true hcz⟩)
      · exact hF.elim
  · rintro b ⟨Hg, o, l, t⟩ ⟨hg1, rfl⟩
    show N _ _ _ _ .normal _ _ _
    simp only at hg1
    obtain ⟨hto, hnil, hleg⟩ := hg1
    unfold pubL
    have hll := hto.len
    have f1' : (copiesZ h z).length ≤ 20 := f1
    obtain _ | po := o
    · have hl0 : l = [] := hnil.1 rfl
      subst hl0
      repeat (any_goals (first | refine T.seq ?_ | refine T.region ?_ | refine TL.nil ?_ | refine N.next ?_ | refine N.inBlock ?_ | refine T.skip ?_ | refine T.block ?_ | (apply T.cond_false; rfl) | (apply TL.val; rfl; rfl; (apply V.len_row; (iterate 4 rfl); (exact lmem))) | (apply TL.val; rfl; rfl; (first | exact vpure | exact vread))))
      refine T.loop (G := Unit) (fun _ => [(4, .pointer (some ⟨b4, 0, none⟩)), (5, .pointer (some ⟨b5, 0, none⟩)), (6, .pointer (some ⟨b6, 0, none⟩)), (82, intV 0), (83, intV 0)]) (fun _ => Hg) (fun _ => [.any b (.deferred (some [])), .row (.slice none 0 0) 96 8 0 [], .blk b6 87 [.slice none 0 0], .blk b5 39 [intV 0], .blk b4 87 [.slice none 0 0]]) (fun _ => True) (fun _ => 0) () trivial (by (repeat (first | exact True.intro | refine ⟨rfl, ?_⟩ | refine Sub.int rfl (by omega) ?_))) rfl (by (repeat (first | exact List.Sublist.refl _ | exact List.nil_sublist _ | apply List.Sublist.cons_cons | apply List.Sublist.cons))) ?_
      rintro ⟨⟩ -
      repeat (any_goals (first | refine T.seq ?_ | refine T.region ?_ | refine TL.nil ?_ | refine N.next ?_ | refine N.exit_same ?_ | refine N.exit_then ?_ | refine T.ret ?_ | refine T.exit ?_ | (apply T.cond_false; rfl) | (apply TL.x; rfl; rfl; (apply X.storeTo 4 [.slice none 0 0]; (iterate 10 rfl)); intro _ _) | (apply TL.x; rfl; rfl; (apply X.storeTo 3 [intV 0]; (iterate 10 rfl)); intro _ _) | (apply TL.val; rfl; rfl; (first | exact vpure | exact vread))))
      all_goals (try contradiction)
      refine N.marked (i := 0) rfl (N.ret2 rfl (by (exact rvx)) (by (exact rvx)) fun w hst => ?_)
      exact ⟨(Hg, Slc.nil _), ⟨⟨[], Hg, hto, .refl _, ⟨rfl, fun y hy => (by cases hy), fun x hx => (by cases hx)⟩⟩, Slc.nil_good⟩, rfl, hst.fresh⟩
    · simp only [rowOf]
      repeat (any_goals (first | refine T.seq ?_ | refine T.region ?_ | refine TL.nil ?_ | refine N.next ?_ | refine N.inBlock ?_ | refine T.skip ?_ | refine T.block ?_ | (apply T.cond_false; rfl) | (apply TL.val; rfl; rfl; (apply V.len_row; (iterate 4 rfl); (exact lmem))) | (apply TL.val; rfl; rfl; (first | exact vpure | exact vread))))
      refine T.loop (G := Hp × Nat × List HeldV) (fun g => [(4, .pointer (some ⟨b4, 0, none⟩)), (5, .pointer (some ⟨b5, 0, none⟩)), (6, .pointer (some ⟨b6, 0, none⟩)), (82, intV l.length), (83, intV g.2.1)]) (fun g => g.1) (fun g => .any b (.deferred (some [])) :: .row (.slice (some ⟨po.1, 0, none⟩) l.length po.2) 96 8 l.length (encs (g.2.2 ++ l.drop g.2.1)) :: .blk b6 87 [.slice (some ⟨po.1, 0, none⟩) l.length po.2] :: .blk b5 39 [intV 0] :: .blk b4 87 [.slice none 0 0] :: fRows (l.drop g.2.1)) (fun g => g.2.1 ≤ l.length ∧ Done g.1 l g.2.2 g.2.1 ∧ Hg.le g.1) (fun g => l.length - g.2.1) (Hg, 0, []) ⟨Nat.zero_le _, ⟨rfl, fun y hy => (by cases hy), fun x hx => (by cases hx)⟩, .refl _⟩ (by (repeat (first | exact True.intro | refine ⟨rfl, ?_⟩ | refine Sub.int rfl (by omega) ?_))) rfl (by exact .cons_cons _ (.cons_cons _ (.cons _ (.cons _ (List.Sublist.refl _))))) ?_
      rintro ⟨Hk, k, done⟩ ⟨hk, hd, hlek⟩
      simp only at hk hd hlek ⊢
      by_cases hlt : k < l.length
      · obtain ⟨x, hx⟩ : ∃ x, l[k]'hlt = x := ⟨_, rfl⟩
        have hdrop : l.drop k = x :: l.drop (k + 1) := by rw [← hx]; exact List.drop_eq_getElem_cons hlt
        have hget : l[k]? = some x := by rw [List.getElem?_eq_getElem hlt, hx]
        have hpx := hto.each x (List.mem_of_getElem? hget)
        have hfl := hpx.flen
        have hin : ∀ s ∈ x.fresh.els, NormIn s ∧ I64 s.frm ∧ I64 s.til := fun s hs => by
          obtain ⟨c, hc, rfl⟩ := hpx.times s hs
          obtain ⟨j, hj, hcj⟩ := List.mem_iff_getElem.1 (f2 c hc).1
          have hok := (hh.each j hj hj).1
          rw [hcj] at hok
          have h1 := hok.frm
          have h2 := hok.til
          have h3 := hok.fin
          have h4 := hh.fin
          have hn0 : NormIn (⟨c.frm, c.til⟩ : SpanV) := ⟨h1, by show c.frm ≤ c.til; omega, by show c.til ≤ _; omega⟩
          exact ⟨hn0, by show I64 c.frm; unfold I64; omega, by show I64 c.til; unfold I64; omega⟩
        obtain ⟨b0, c0, hshape⟩ := hpx.shape
        have hx8 : (done ++ l.drop k)[k]? = some x := by
          rw [List.getElem?_append_right (by rw [hd.len]; exact Nat.le_refl _), hd.len, Nat.sub_self, hdrop]; rfl
        have hset8 : ∀ y, (done ++ l.drop k).set k y = (done ++ [y]) ++ l.drop (k + 1) := fun y => by
          rw [hdrop, List.set_append_right _ _ (by rw [hd.len]; exact Nat.le_refl _), hd.len, Nat.sub_self, List.append_assoc]; rfl
        have hrw : fRows (l.drop k) = fRow x :: fRows (l.drop (k + 1)) := by rw [hdrop]; rfl
        rw [hrw]
        refine T.frzRow 5 (v := x.fresh.v) (e := 134) (size := 2) (els := x.fresh.els) (m := x.fresh.els.length) rfl rfl rfl (fun s hs => (hin s hs).2) ?_
        intro Hf sf e1 e2 e3 hlef
        simp only [List.eraseIdx_cons_succ, List.eraseIdx_cons_zero]
        have hsl : sf.len = x.fresh.els.length := by rw [← e3.len, e2]
        have hv : (encs (done ++ l.drop k))[0 + k * 8 + 6]? = some sf.v := by
          rw [show 0 + k * 8 + 6 = k * Enc.size HeldV + 6 by show _ = k * 8 + 6; omega, e1]
          exact encs_get _ k 6 _ _ hx8 rfl
        repeat (any_goals (first | (apply T.regionDS (id := 27) [.row (.slice (some ⟨po.1, 0, none⟩) l.length po.2) 96 8 l.length (encs (done ++ l.drop k)), .blk b6 87 [.slice (some ⟨po.1, 0, none⟩) l.length po.2]] wide; rfl; (repeat (first | exact List.Sublist.refl _ | exact List.nil_sublist _ | apply List.Sublist.cons_cons | apply List.Sublist.cons))) | refine T.seq ?_ | refine T.region ?_ | refine TL.nil ?_ | refine N.next ?_ | refine N.inBlock ?_ | refine N.exit_same ?_ | refine N.exit_then ?_ | refine T.ret ?_ | refine T.skip ?_ | refine T.exit ?_ | refine T.block ?_ | (apply T.test; rfl; (exact isx); intro _; rotate_left; intro _; rotate_right) | (apply GT.pure; (iterate 4 rfl); (apply V.elem (j := k); (iterate 6 rfl); omega; rfl); decide +kernel) | (apply GT.read; (iterate 4 rfl); (apply V.load_own; rfl; rfl; rfl; (exact lmem); exact hv); decide +kernel) | (apply GS.grow; rfl; rfl; (apply X.callFE (f := 131) [sf.v] Tryz.call131; rfl; rfl; rfl; exact (fun _ hs => c_Normal sf (by omega) (by rw [e2]; exact fun s hs => (hin s hs).1) hs.sat e3)); rintro ⟨Hn, sn⟩ ⟨⟨⟨ys, hn1, hn2⟩, hn3⟩, hn4⟩) | (apply GS.eff; rfl; decide +kernel; rfl; (exact X.storeRowE 1 (vs := [sn.v]) (ys := encs ((done ++ [(⟨x.zone, x.signed, sn, x.spans⟩ : HeldV)]) ++ l.drop (k + 1))) rfl rfl rfl rfl rfl rfl rfl (by show 0 + k * 8 + 6 + 1 ≤ l.length * 8; omega) ((encs_put (y := ⟨x.zone, x.signed, sn, x.spans⟩) hx8 (by show 6 + 1 ≤ 8; omega) rfl (by show 0 + k * 8 + 6 = k * 8 + 6; omega)).trans (congrArg encs (hset8 _)))); intro _ _) | (apply TL.val; rfl; rfl; (first | exact vpure | exact vread)) | (apply GT.pure; (iterate 4 rfl); (first | exact vpure); decide +kernel) | (apply GT.read; (iterate 4 rfl); (first | exact vpure | exact vread); decide +kernel) | (apply GT.done; decide +kernel; apply N.ofQ) | (apply GT.adv; rfl) | (apply TL.x; rfl; rfl; (first | exact xgrow | exact xput); intro _ _) | (apply GT.fork1; decide +kernel)))
        all_goals (try contradiction)
        all_goals (try (exfalso; omega))
        refine N.round (Hn, k + 1, done ++ [(⟨x.zone, x.signed, sn, x.spans⟩ : HeldV)]) ⟨by show k + 1 ≤ _; omega, hd.more hget ⟨rfl, rfl, rfl, ⟨ys, by rw [← e2]; exact hn1, hn2⟩, hn3⟩ (hlef.trans hn4), (hlek.trans hlef).trans hn4⟩ (by show l.length - (k + 1) < l.length - k; omega) (by (repeat (first | exact True.intro | refine ⟨rfl, ?_⟩ | refine Sub.int rfl (by omega) ?_))) rfl (List.Sublist.refl _)
      · have hke : k = l.length := by omega
        subst hke
        have hd0 : l.drop l.length = [] := List.drop_length
        rw [hd0, List.append_nil]
        have hdl := hd.len
        have hgood : ∀ y ∈ done, Enc.good Hk y := fun y hy => by
          obtain ⟨x, hx, hn⟩ := hd.from y hy
          have hp := hto.each x hx
          refine ⟨by rw [hn.zone, hp.zone]; exact hzl, by rw [hn.signed]; exact Enc.mono hlek hp.good, hn.good, by rw [hn.spans, hp.spans]; exact Slc.nil_good⟩
        repeat (any_goals (first | refine T.seq ?_ | refine T.region ?_ | (apply T.regionD wide; rfl) | refine TL.nil ?_ | refine N.next ?_ | refine N.exit_same ?_ | refine N.exit_then ?_ | refine T.ret ?_ | refine T.skip ?_ | refine T.exit ?_ | refine T.block ?_ | (apply T.test; rfl; (exact isx); intro _; rotate_left; intro _; rotate_right) | (apply TL.x; rfl; rfl; (apply X.storeTo 4 [.slice (some ⟨po.1, 0, none⟩) l.length po.2]; (iterate 10 rfl)); intro _ _) | (apply TL.x; rfl; rfl; (apply X.storeTo 3 [intV 0]; (iterate 10 rfl)); intro _ _) | (apply TL.val; rfl; rfl; (first | exact vpure | exact vread)) | (apply GT.pure; (iterate 4 rfl); (first | exact vpure); decide +kernel) | (apply GT.read; (iterate 4 rfl); (first | exact vpure | exact vread); decide +kernel) | (apply GT.fork1; decide +kernel)))
        all_goals (try contradiction)
        all_goals (try (exfalso; omega))
        refine N.marked (i := 0) rfl (N.ret2 rfl (by (exact rvx)) (by (exact rvx)) fun w hst => ?_)
        obtain ⟨H', s, e1, e2, e3, e4, e5⟩ := (hst.sub (L' := [.row (.slice (some ⟨po.1, 0, none⟩) l.length po.2) 96 8 l.length (encs done)]) (.cons _ (.cons_cons _ (List.nil_sublist _)))).freezeRow rfl hdl hgood
        exact ⟨(H', s), ⟨⟨l, Hg, hto, hlek.trans e4, by rw [e2]; exact ⟨hd.len, fun y hy => (hd.from y hy).imp fun x hx => ⟨hx.1, hx.2.mono e4⟩, fun x hx => (hd.to x hx).imp fun y hy => ⟨hy.1, hy.2.mono e4⟩⟩⟩, e3⟩, by rw [← e1], e5.fresh⟩
end Go.Proofs.YtepljgpikfeklaaGreatDoor
