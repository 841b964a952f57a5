import Derived.Test.YtepljgpikfeklaaGreatDoorQVM
import Derived.Test.YtepljgpikfeklaaGreatDoorQEngR
namespace Go.Proofs.YtepljgpikfeklaaGreatDoor
set_option linter.unusedVariables false
set_option linter.unusedSimpArgs false
open Go Go.RowKit
open Enc (enc)
set_option maxRecDepth 20000
structure GrpsTo (h : HistV) (k : Nat) (l : List Grp) : Prop where
  le : k ≤ h.copies.len
  each : ∀ g ∈ l, GrpOK h k g
theorem GrpsTo.next {h : HistV} {k : Nat} {l : List Grp} (hl : GrpsTo h k l) (hk : k < h.copies.len) {l' : List Grp} (h' : ∀ g ∈ l', g ∈ l ∨ GrpOK h (k + 1) g) : GrpsTo h (k + 1) l' :=
  ⟨hk, fun g hg => (h' g hg).elim (fun hm => (hl.each g hm).more) id⟩
theorem grp_len {b c : Nat} {key : PlaceV} {els : List SpanV} {s : SpanV} : (⟨key, b, c, els ++ [s]⟩ : Grp).loc = .row (.slice (some ⟨b, 0, none⟩) (els.length + 1) c) 134 2 (els.length + 1) (encs els ++ enc s) := by
  unfold Grp.loc Grp.v
  simp only [List.length_append, List.length_cons, List.length_nil, Nat.zero_add, encs_snoc]
theorem grp_v {b c : Nat} {key : PlaceV} {els : List SpanV} {s : SpanV} : (⟨key, b, c, els ++ [s]⟩ : Grp).v = .slice (some ⟨b, 0, none⟩) (els.length + 1) c := by
  unfold Grp.v
  simp only [List.length_append, List.length_cons, List.length_nil, Nat.zero_add]
theorem set_sameG {α : Type} {l : List α} {j : Nat} {x : α} (h : l[j]? = some x) : l.set j x = l := by
  obtain ⟨hj, e⟩ := List.getElem?_eq_some_iff.1 h
  rw [← e, List.set_getElem_self]
set_option maxHeartbeats 16000000 in
theorem c_historyValid (h : HistV) (hh : HistOK h) {H : Hp} {w : World} (hs : Sat H w) (hR : Rules H) (hgd : Enc.good H h) : Calls Tryz.prog 32 #[.agg (enc h).toArray] w (Ret w (.bool true)) := by
  obtain ⟨g1, g2, g3, g4, g5, g6⟩ := hgd
  have hl2 := g2.len
  have hm2 := g2.lim
  have hfew := hh.few
  obtain ⟨f1, f2⟩ := hh.fin
  obtain ⟨d1, d2⟩ := hh.drift
  refine T.enter (vs := [.agg (enc h).toArray]) (H := H) Tryz.func32 rfl rfl rfl hs ?_
  repeat (any_goals (first | refine T.seq ?_ | refine T.region ?_ | refine TL.nil ?_ | refine N.next ?_ | refine N.ret_then ?_ | refine T.ret ?_ | refine T.skip ?_ | refine T.block ?_ | (apply T.cond_true; rfl) | (apply T.cond_false; rfl) | (apply T.test; rfl; (exact isx); intro _; rotate_left; intro _; rotate_right) | (apply TL.skip; rfl; rfl; rfl) | (apply TL.x; rfl; rfl; (apply X.box (d := 1); rfl; rfl; rfl); intro b1 _; apply TL.frzZ 0; rfl; intro H1 z1 hle1; have g1 := g1.mono hle1; have g2 := g2.mono hle1; have g3 := Enc.mono hle1 g3; have g4 := g4.mono hle1; have hR := Rules.mono hle1 hR; have zA : H1.cells b1 (0 + 2) (enc h.anchor) := Hp.cells_sub z1 (m := 4) rfl) | (apply TL.val; rfl; rfl; (apply V.load_H; rfl; rfl; rfl; first | exact z1 0 _ rfl | exact z1 1 _ rfl | exact z1 2 _ rfl | exact z1 3 _ rfl | exact z1 4 _ rfl | exact z1 5 _ rfl | exact z1 6 _ rfl | exact z1 7 _ rfl | exact z1 8 _ rfl)) | (apply TL.val; rfl; rfl; (apply V.load_H_row; rfl; rfl; rfl; exact zA; rfl)) | (apply TL.val; rfl; rfl; (apply V.build; (iterate 6 rfl))) | (apply TL.callE (f := 63) [.agg (enc (⟨h.hosts, h.anchor, h.hints⟩ : WorldV)).toArray] Tryz.call63; (iterate 4 rfl); (exact fun _ hs => c_worldValid ⟨h.hosts, h.anchor, h.hints⟩ hh.hosts hh.roots hs.sat hR ⟨g1, g3, g4⟩)) | (apply TL.x; rfl; rfl; (apply X.makeMap (d := 43) plV; rfl); intro bm _) | (apply TL.val; rfl; rfl; (first | exact vpure | exact vread)) | (apply TL.guard; rfl; rfl; rfl; (exact isx); intro _; rotate_left; intro _; rotate_right)))
  all_goals (try contradiction)
  all_goals (try (exfalso; omega))
  refine T.loop (G := Nat × List Grp) (fun g => [(1, .pointer (some ⟨b1, 0, none⟩)), (3, .map (some bm)), (45, h.copies.v), (46, intV h.copies.len), (47, intV g.1)]) (fun _ => H1) (fun g => .any bm (mObj plV (gMap g.2)) :: gRows g.2) (fun g => GrpsTo h g.1 g.2) (fun g => h.copies.len - g.1) (0, []) ⟨Nat.zero_le _, fun g hg => by cases hg⟩ (by (repeat (first | exact True.intro | refine ⟨rfl, ?_⟩ | refine Sub.int rfl (by omega) ?_))) rfl (by exact List.Sublist.refl _) ?_
  rintro ⟨k, l⟩ hl
  have hle := hl.le
  simp only at hle ⊢
  by_cases hlt : k < h.copies.len
  · have hkl : k < h.copies.els.length := by omega
    have hxg := g2.els _ (List.getElem_mem hkl)
    have hrow := g2.row (k := k) hlt
    have hco := (hh.each k hkl hkl).1
    have hadd := fun (g : Grp) (hg : g ∈ l) (b c : Nat) (e1 : h.copies.els[k].host = g.key.host) (e2 : h.copies.els[k].zone.apex = g.key.apex) => (hl.each g hg).add hkl hh.each b c e1 e2
    have hone := fun (b c : Nat) => GrpOK.one (h := h) hkl b c
    obtain ⟨x, hx⟩ : ∃ x, h.copies.els[k]'hkl = x := ⟨_, rfl⟩
    rw [hx] at hxg hco
    simp only [hx] at hadd hone
    try rw [hx] at hrow
    obtain ⟨c1, c2, c3, c4, c5⟩ := hco
    have hhl := g1.len
    obtain ⟨a, ha⟩ : ∃ a : PlaceV, (⟨x.host, x.zone.apex⟩ : PlaceV) = a := ⟨_, rfl⟩
    rcases gFind (l := l) (a := a) with hf | ⟨j, g, hf, hj, hgk⟩
    · obtain ⟨e1, e2, e3⟩ := key_rw hf (.slice none 0 0)
      refine T.nilRow 134 2 ?_
      refine T.perm (.any bm (mObj plV (gMap l)) :: (gRows l ++ [.row (.slice none 0 0) 134 2 0 []])) (List.perm_append_singleton _ (.any bm (mObj plV (gMap l)) :: gRows l)).symm ?_
      have hat : (gRows l ++ [Loc.row (.slice none 0 0) 134 2 0 []])[l.length]? = some (Loc.row (.slice none 0 0) 134 2 0 []) := by rw [← gRows_len l]; exact get_end _ _
      have hset : ∀ y, (gRows l ++ [Loc.row (.slice none 0 0) 134 2 0 []]).set l.length y = gRows l ++ [y] := fun y => by rw [← gRows_len l]; exact set_end _ _ _
      have hmat : (gMap l ++ [(a, Value.slice none 0 0)])[l.length]? = some (a, Value.slice none 0 0) := by rw [← gMap_len l]; exact get_end _ _
      have hmset : ∀ v, (gMap l ++ [(a, Value.slice none 0 0)]).set l.length (a, v) = gMap l ++ [(a, v)] := fun v => by rw [← gMap_len l]; exact set_end _ _ _
      repeat (any_goals (first | refine T.seq ?_ | refine T.region ?_ | refine TL.nil ?_ | refine N.next ?_ | refine N.inBlock ?_ | refine N.exit_same ?_ | refine N.exit_then ?_ | refine N.ret_then ?_ | refine N.ret_block ?_ | refine T.ret ?_ | refine T.skip ?_ | refine T.exit ?_ | refine T.block ?_ | (apply T.cond_true; rfl) | (apply T.cond_false; rfl) | (apply T.test; rfl; (exact isx); intro _; rotate_left; intro _; rotate_right) | (apply TL.skip; rfl; rfl; rfl) | (apply TL.val; rfl; rfl; (apply V.load_H; rfl; rfl; rfl; first | exact z1 0 _ rfl | exact z1 1 _ rfl | exact z1 2 _ rfl | exact z1 3 _ rfl | exact z1 4 _ rfl | exact z1 5 _ rfl | exact z1 6 _ rfl | exact z1 7 _ rfl | exact z1 8 _ rfl)) | (apply TL.val; rfl; rfl; (apply V.elem (j := k); (iterate 6 rfl); omega; exact g2.at_ (by omega))) | (apply TL.val; rfl; rfl; (apply V.load_H_row; rfl; rfl; rfl; exact hrow; rfl)) | (apply TL.x; rfl; rfl; (apply X.alloc (d := 5); rfl; rfl; rfl); intro b5 _) | (apply TL.x; rfl; rfl; (apply X.storeTo 0 (enc x); (iterate 10 rfl)); intro _ _) | (apply TL.callE (f := 64) [.agg (enc x.zone).toArray] Tryz.call64; (iterate 4 rfl); (exact fun _ hs => c_zoneValid x.zone c5 hs.sat hR hxg.2.2.2)) | (apply TL.val; rfl; rfl; (apply V.build; (iterate 6 rfl))) | (apply TL.x; rfl; rfl; (apply X.alloc (d := 6); rfl; rfl; rfl); intro b6 _) | (apply TL.x; rfl; rfl; (apply X.storeTo 0 (enc (⟨x.host, x.zone.apex⟩ : PlaceV)); (iterate 10 rfl)); intro _ _) | (apply TL.x; rfl; rfl; (apply X.buildSlice1 (d := 99); (iterate 8 rfl)); intro b99 _) | (apply TL.x; rfl; rfl; (apply X.mentryG (mk := plV) (l := gMap l) 3 a; (iterate 4 rfl); exact key_pl; rfl; (rw [← ha]; rfl); rfl; (exact congrArg (fun o => Option.getD o _) e1); exact e2; exact e3; rfl); intro _ _) | (apply TL.x; rfl; rfl; (apply X.append1 (l.length + 4); (iterate 7 rfl); exact hat; rfl; exact List.Mem.head _; rfl; rfl; rfl; decide; decide); intro pa _) | (apply TL.x; rfl; rfl; (exact X.estoreG (mk := plV) (l := gMap l ++ [(a, .slice none 0 0)]) 3 a rfl rfl rfl rfl hmat (hmset _) rfl); intro _ _) | (apply TL.val; rfl; rfl; (first | exact vpure | exact vread)) | (apply TL.guard; rfl; rfl; rfl; (exact isx); intro _; rotate_left; intro _; rotate_right)))
      all_goals (try contradiction)
      all_goals (try (exfalso; omega))
      refine N.round (k + 1, l ++ [⟨a, pa.1, pa.2, [⟨x.frm, x.til⟩]⟩]) (hl.next hlt fun g hg => ?_) (by show h.copies.len - (k + 1) < h.copies.len - k; omega) (by (repeat (first | exact True.intro | refine ⟨rfl, ?_⟩ | refine Sub.int rfl (by omega) ?_))) rfl ?_
      · rcases List.mem_append.1 hg with hg | hg
        · exact .inl hg
        · rw [List.mem_singleton.1 hg, ← ha]; exact .inr (hone _ _)
      · simp only [gMap_snoc, gRows_snoc]
        refine List.Sublist.trans ?_ (List.sublist_append_right [_, _, _] _)
        show List.Sublist _ (_ :: (gRows l ++ [_]).set l.length _)
        rw [hset]
        exact List.Sublist.refl _
    · obtain ⟨e1, e2, e3⟩ := key_rw2 hf (.slice none 0 0)
      have hgm := List.mem_of_getElem? hj
      have hgl := (hl.each g hgm).len
      have hat := gRows_at hj
      have hmat := gMap_at hj
      rw [hgk] at hmat
      repeat (any_goals (first | refine T.seq ?_ | refine T.region ?_ | refine TL.nil ?_ | refine N.next ?_ | refine N.inBlock ?_ | refine N.exit_same ?_ | refine N.exit_then ?_ | refine N.ret_then ?_ | refine N.ret_block ?_ | refine T.ret ?_ | refine T.skip ?_ | refine T.exit ?_ | refine T.block ?_ | (apply T.cond_true; rfl) | (apply T.cond_false; rfl) | (apply T.test; rfl; (exact isx); intro _; rotate_left; intro _; rotate_right) | (apply TL.skip; rfl; rfl; rfl) | (apply TL.val; rfl; rfl; (apply V.load_H; rfl; rfl; rfl; first | exact z1 0 _ rfl | exact z1 1 _ rfl | exact z1 2 _ rfl | exact z1 3 _ rfl | exact z1 4 _ rfl | exact z1 5 _ rfl | exact z1 6 _ rfl | exact z1 7 _ rfl | exact z1 8 _ rfl)) | (apply TL.val; rfl; rfl; (apply V.elem (j := k); (iterate 6 rfl); omega; exact g2.at_ (by omega))) | (apply TL.val; rfl; rfl; (apply V.load_H_row; rfl; rfl; rfl; exact hrow; rfl)) | (apply TL.x; rfl; rfl; (apply X.alloc (d := 5); rfl; rfl; rfl); intro b5 _) | (apply TL.x; rfl; rfl; (apply X.storeTo 0 (enc x); (iterate 10 rfl)); intro _ _) | (apply TL.callE (f := 64) [.agg (enc x.zone).toArray] Tryz.call64; (iterate 4 rfl); (exact fun _ hs => c_zoneValid x.zone c5 hs.sat hR hxg.2.2.2)) | (apply TL.val; rfl; rfl; (apply V.build; (iterate 6 rfl))) | (apply TL.x; rfl; rfl; (apply X.alloc (d := 6); rfl; rfl; rfl); intro b6 _) | (apply TL.x; rfl; rfl; (apply X.storeTo 0 (enc (⟨x.host, x.zone.apex⟩ : PlaceV)); (iterate 10 rfl)); intro _ _) | (apply TL.x; rfl; rfl; (apply X.buildSlice1 (d := 99); (iterate 8 rfl)); intro b99 _) | (apply TL.x; rfl; rfl; (apply X.mentryG (mk := plV) (l := gMap l) 3 a; (iterate 4 rfl); exact key_pl; rfl; (rw [← ha]; rfl); rfl; (exact congrArg (fun o => Option.getD o _) e1); exact e2; exact e3; rfl); intro _ _) | (apply TL.x; rfl; rfl; (apply X.append1 (j + 4); (iterate 7 rfl); exact hat; rfl; exact List.Mem.head _; rfl; rfl; rfl; (refine Nat.le_trans (Nat.mul_le_mul_right _ (show _ ≤ 20001 by omega)) ?_; decide); omega); intro pa _) | (apply TL.x; rfl; rfl; (exact X.estoreG (mk := plV) (l := gMap l) 3 a rfl rfl rfl rfl hmat rfl rfl); intro _ _) | (apply TL.val; rfl; rfl; (first | exact vpure | exact vread)) | (apply TL.guard; rfl; rfl; rfl; (exact isx); intro _; rotate_left; intro _; rotate_right)))
      all_goals (try contradiction)
      all_goals (try (exfalso; omega))
      refine N.round (k + 1, l.set j ⟨g.key, pa.1, pa.2, g.els ++ [⟨x.frm, x.til⟩]⟩) (hl.next hlt fun g' hg' => ?_) (by show h.copies.len - (k + 1) < h.copies.len - k; omega) (by (repeat (first | exact True.intro | refine ⟨rfl, ?_⟩ | refine Sub.int rfl (by omega) ?_))) rfl ?_
      · rcases List.mem_or_eq_of_mem_set hg' with hg' | hg'
        · exact .inl hg'
        · rw [hg']; exact .inr (hadd g hgm _ _ (by rw [hgk, ← ha]) (by rw [hgk, ← ha]))
      · simp only [gMap_set, gRows_set, grp_len, grp_v, hgk]
        exact List.sublist_append_right [_, _, _] _
  · have hke : k = h.copies.len := by omega
    subst hke
    repeat (any_goals (first | refine T.seq ?_ | refine T.region ?_ | refine TL.nil ?_ | refine N.next ?_ | refine N.exit_same ?_ | refine N.exit_then ?_ | refine N.ret_then ?_ | refine N.ret_block ?_ | refine T.ret ?_ | refine T.skip ?_ | refine T.exit ?_ | refine T.block ?_ | (apply T.cond_true; rfl) | (apply T.test; rfl; (exact isx); intro _; rotate_left; intro _; rotate_right) | (apply TL.skip; rfl; rfl; rfl) | (apply TL.x; rfl; rfl; (apply X.rangeMap (mk := plV) (l := gMap l) (d := 105); (iterate 4 rfl); exact List.Mem.head _); intro br _) | (apply TL.val; rfl; rfl; (first | exact vpure | exact vread)) | (apply TL.x; rfl; rfl; (first | exact xgrow | exact xput); intro _ _) | (apply TL.guard; rfl; rfl; rfl; (exact isx); intro _; rotate_left; intro _; rotate_right)))
    all_goals (try contradiction)
    all_goals (try (exfalso; omega))
    refine T.loop (G := List Nat × List Grp) (fun g => [(1, .pointer (some ⟨b1, 0, none⟩)), (105, .pointer (some ⟨br, 0, none⟩))]) (fun _ => H1) (fun g => .any br (iterZ bm (gMap g.2).length g.1) :: .any bm (mObj plV (gMap g.2)) :: gRows g.2) (fun g => g.1.Nodup ∧ (∀ x ∈ g.1, x < g.2.length) ∧ ∀ q ∈ g.2, GrpOK h h.copies.len q) (fun g => g.2.length - g.1.length) ([], l) ⟨List.nodup_nil, fun x hx => by (cases hx), hl.each⟩ (by (repeat (first | exact True.intro | refine ⟨rfl, ?_⟩ | refine Sub.int rfl (by omega) ?_))) rfl (by exact List.Sublist.refl _) ?_
    rintro ⟨seen, m⟩ ⟨n1, n2, n3⟩
    simp only at n1 n2 n3 ⊢
    refine T.seq ?_
    refine T.region ?_
    refine TL.x rfl rfl (X.nextMap (t := 0) (mk := plV) (l := gMap m) (seen := seen) 0 rfl rfl rfl (List.Mem.tail _ (List.Mem.head _))) ?_
    intro o ho
    cases o with
    | none =>
      repeat (any_goals (first | refine T.seq ?_ | refine T.region ?_ | refine TL.nil ?_ | refine N.next ?_ | refine N.exit_same ?_ | refine N.exit_then ?_ | refine T.ret ?_ | refine T.exit ?_ | (apply T.cond_false; rfl) | (apply TL.val; rfl; rfl; (apply V.extract (v := .bool false); rfl; rfl)) | (apply TL.val; rfl; rfl; (apply V.load_H; rfl; rfl; rfl; first | exact z1 0 _ rfl | exact z1 1 _ rfl | exact z1 2 _ rfl | exact z1 3 _ rfl | exact z1 4 _ rfl | exact z1 5 _ rfl | exact z1 6 _ rfl | exact z1 7 _ rfl | exact z1 8 _ rfl)) | (apply TL.x; rfl; rfl; (apply X.callFE (f := 68) [h.copies.v, .func (.func 69) #[] #[]] Tryz.call68; rfl; rfl; rfl; exact (fun _ hs => c_unique h.copies (by omega) hs.sat g2)); intro p hp) | (apply TL.val; rfl; rfl; (first | exact vpure | exact vread))))
      all_goals (try contradiction)
      all_goals (try (exfalso; omega))
      have hpl := hp.1.2.len
      rw [hp.1.1] at hpl
      have hq := uniq_few (apexesOf h.copies.els)
      have hap := hh.apexes
      exact N.ret_bool rfl (by (exact rvx)) (decide_eq_true (by omega))
    | some j =>
      have hjl : j < m.length := by have := (show _ ∧ _ from ho).1; rwa [gMap_len] at this
      have hjs : j ∉ seen := (show _ ∧ _ from ho).2
      obtain ⟨g, hg⟩ : ∃ g, m[j]? = some g := ⟨_, List.getElem?_eq_getElem hjl⟩
      have hst : stepV plV (gMap m) (some j) = .tuple #[.bool true, plV g.key, g.v] := by unfold stepV; simp only [gMap_at hg]
      rw [hst]
      have hgo := n3 g (List.mem_of_getElem? hg)
      have hgl := hgo.len
      repeat (any_goals (first | refine T.seq ?_ | refine T.region ?_ | refine TL.nil ?_ | refine N.next ?_ | refine T.skip ?_ | refine T.block ?_ | (apply T.cond_true; rfl) | (apply TL.val; rfl; rfl; (apply V.entryMap (mk := plV) (l := gMap m) (seen := seen) (j := j) (p := (g.key, g.v)); rfl; exact List.Mem.head _; exact List.Mem.tail _ (List.Mem.head _); exact gMap_at hg)) | (apply TL.x; rfl; rfl; (apply X.callB [g.v, .func (.func 66) #[] #[]] (f := 65); (iterate 4 rfl); exact Tryz.call65; exact fun _ hs => c_sortH hs (j + 2) (gRows_at hg) (by omega)); intro ys hys) | (apply TL.val; rfl; rfl; (first | exact vpure | exact vread))))
      have hlen : ys.length = g.els.length := hys.perm.length_eq
      have hrat : ((gRows m).set j (.row g.v 134 2 g.els.length (encs ys)))[j]? = some (.row g.v 134 2 g.els.length (encs ys)) := by
        rw [List.getElem?_set, if_pos rfl, if_pos (by rw [gRows_len]; exact hjl)]
      have hrm : ∀ x y, Loc.row (.slice (some ⟨g.b, 0, none⟩) g.els.length g.c) 134 2 g.els.length (encs ys) ∈ x :: y :: (gRows m).set j (.row g.v 134 2 g.els.length (encs ys)) := fun x y => List.Mem.tail _ (List.Mem.tail _ (List.mem_of_getElem? hrat))
      refine T.loop (G := Nat) (fun i => [(1, .pointer (some ⟨b1, 0, none⟩)), (105, .pointer (some ⟨br, 0, none⟩)), (8, g.v), (9, intV i)]) (fun _ => H1) (fun _ => .any br (iterZ bm (gMap m).length (seen ++ [j])) :: .any bm (mObj plV (gMap m)) :: (gRows m).set j (.row g.v 134 2 g.els.length (encs ys))) (fun i => 1 ≤ i) (fun i => g.els.length - i) 1 (Nat.le_refl _) (by (repeat (first | exact True.intro | refine ⟨rfl, ?_⟩ | refine Sub.int rfl (by omega) ?_))) rfl (by rw [hlen]; exact List.Sublist.refl _) ?_
      intro i hi
      by_cases hil : i < g.els.length
      · have hiy : i < ys.length := by omega
        have hiy2 : i - 1 < ys.length := by omega
        have hno := sorted_next hgo hh.each hys hi hiy
        have h1 : (encs ys)[0 + i * 2 + 0]? = some (intV ys[i].frm) := by
          rw [show 0 + i * 2 + 0 = i * Enc.size SpanV + 0 by show _ = i * 2 + 0; omega]
          exact encs_get ys i 0 ys[i] _ (List.getElem?_eq_getElem hiy) rfl
        have h2 : (encs ys)[0 + (i - 1) * 2 + 1]? = some (intV ys[i - 1].til) := by
          rw [show 0 + (i - 1) * 2 + 1 = (i - 1) * Enc.size SpanV + 1 by show _ = (i - 1) * 2 + 1; omega]
          exact encs_get ys (i - 1) 1 ys[i - 1] _ (List.getElem?_eq_getElem hiy2) rfl
        repeat (any_goals (first | refine T.seq ?_ | refine T.region ?_ | (apply T.regionD wide; rfl) | refine TL.nil ?_ | refine N.next ?_ | refine N.inBlock ?_ | refine N.exit_same ?_ | refine N.exit_then ?_ | refine N.ret_then ?_ | refine N.ret_block ?_ | refine T.ret ?_ | refine T.skip ?_ | refine T.exit ?_ | refine T.block ?_ | (apply T.test; rfl; (exact isx); intro _; rotate_left; intro _; rotate_right) | (apply GT.pure; (iterate 4 rfl); (apply V.elem (j := i); (iterate 6 rfl); omega; rfl); decide +kernel) | (apply GT.pure; (iterate 4 rfl); (apply V.elem (j := i - 1); (iterate 5 rfl); omega; omega; rfl); decide +kernel) | (apply GT.read; (iterate 4 rfl); (apply V.load_own; rfl; rfl; rfl; exact hrm _ _; exact h1); decide +kernel) | (apply GT.read; (iterate 4 rfl); (apply V.load_own; rfl; rfl; rfl; exact hrm _ _; exact h2); decide +kernel) | (apply TL.val; rfl; rfl; (first | exact vpure | exact vread)) | (apply GT.pure; (iterate 4 rfl); (first | exact vpure); decide +kernel) | (apply GT.done; decide +kernel; apply N.ofQ)))
        all_goals (try contradiction)
        all_goals (try (exfalso; omega))
        all_goals first
          | exact N.round (i + 1) (by omega) (by show g.els.length - (i + 1) < g.els.length - i; omega) (by (repeat (first | exact True.intro | refine ⟨rfl, ?_⟩ | refine Sub.int rfl (by omega) ?_))) rfl (by exact List.Sublist.refl _)
          | trace_state
      · repeat (any_goals (first | refine T.seq ?_ | refine T.region ?_ | (apply T.regionD wide; rfl) | refine TL.nil ?_ | refine N.next ?_ | refine N.inBlock ?_ | refine N.exit_same ?_ | refine N.exit_then ?_ | refine T.skip ?_ | refine T.exit ?_ | refine T.block ?_ | (apply T.test; rfl; (exact isx); intro _; rotate_left; intro _; rotate_right) | (apply TL.val; rfl; rfl; (apply V.len; (iterate 4 rfl))) | (apply TL.val; rfl; rfl; (first | exact vpure | exact vread)) | (apply GT.pure; (iterate 4 rfl); (first | exact vpure); decide +kernel)))
        all_goals (try contradiction)
        all_goals (try (exfalso; omega))
        have hgv : (⟨g.key, g.b, g.c, ys⟩ : Grp).v = g.v := by unfold Grp.v; simp only [hlen]
        have hgm : gMap (m.set j ⟨g.key, g.b, g.c, ys⟩) = gMap m := by
          rw [gMap_set, hgv]
          exact set_sameG (gMap_at hg)
        have hgr : gRows (m.set j ⟨g.key, g.b, g.c, ys⟩) = (gRows m).set j (.row g.v 134 2 g.els.length (encs ys)) := by
          rw [gRows_set]
          unfold Grp.loc
          rw [hgv]
          simp only [hlen]
        have hmin : seen.length < m.length := by
          have := nodup_lt (l := seen ++ [j]) (n := m.length) (by
            rw [List.nodup_append]
            exact ⟨n1, by simp, fun a ha b hb => by rw [List.mem_singleton.1 hb]; rintro rfl; exact hjs ha⟩) (fun x hx => by
            rcases List.mem_append.1 hx with hx | hx
            · exact n2 x hx
            · rw [List.mem_singleton.1 hx]; exact hjl)
          rw [List.length_append, List.length_cons, List.length_nil] at this
          omega
        refine N.round (seen ++ [j], m.set j ⟨g.key, g.b, g.c, ys⟩) ⟨?_, ?_, ?_⟩ (by simp only [List.length_set, List.length_append, List.length_cons, List.length_nil]; omega) (by (repeat (first | exact True.intro | refine ⟨rfl, ?_⟩ | refine Sub.int rfl (by omega) ?_))) rfl ?_
        · rw [List.nodup_append]
          exact ⟨n1, by simp, fun a ha b hb => by rw [List.mem_singleton.1 hb]; rintro rfl; exact hjs ha⟩
        · intro x hx
          rw [List.length_set]
          rcases List.mem_append.1 hx with hx | hx
          · exact n2 x hx
          · rw [List.mem_singleton.1 hx]; exact hjl
        · intro q hq
          rcases List.mem_or_eq_of_mem_set hq with hq | hq
          · exact n3 q hq
          · rw [hq]
            exact ⟨(hys.perm.pairwise_iff fun {_ _} h => ApartS.symm h).2 hgo.apart, fun s hs => hgo.each s (hys.perm.mem_iff.1 hs), by show ys.length ≤ _; omega⟩
        · simp only [hgm, hgr]
          exact List.Sublist.refl _
end Go.Proofs.YtepljgpikfeklaaGreatDoor
