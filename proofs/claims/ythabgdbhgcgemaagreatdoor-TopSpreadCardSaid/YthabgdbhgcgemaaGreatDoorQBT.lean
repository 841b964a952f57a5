import Derived.Test.YthabgdbhgcgemaaGreatDoorQBS
namespace Go.Proofs.YthabgdbhgcgemaaGreatDoor
set_option linter.unusedVariables false
set_option linter.unusedSimpArgs false
open Go Go.RowKit
open Enc (enc)
set_option maxRecDepth 20000
theorem untilJ_get : ∀ {l : List (Int × Nat)} {e : Int} {j : Nat} (hj : j < l.length) (hj2 : j < (untilJ l e).length), (untilJ l e)[j] = (l[j].1, (if h : j + 1 < l.length then (l[j + 1]'h).1 else e), l[j].2)
  | [x], e, 0, _, _ => rfl
  | x :: y :: l, e, 0, _, _ => rfl
  | x :: y :: l, e, j + 1, hj, hj2 => by
    have hj' : j < (y :: l).length := by simpa using hj
    have hl : j < (untilJ (y :: l) e).length := by rw [untilJ_len]; exact hj'
    have ih := untilJ_get (l := y :: l) (e := e) (j := j) hj' hl
    have e1 : (untilJ (x :: y :: l) e)[j + 1]'hj2 = (untilJ (y :: l) e)[j]'hl := rfl
    rw [e1, ih]
    simp
def upJ (out : List (Int × Nat)) (fin : Int) (i : Nat) : List StrV := (List.range out.length).map fun j => ⟨(out.getD j (0, 0)).1, if j + 1 < i then (out.getD (j + 1) (0, 0)).1 else fin, ((out.getD j (0, 0)).2 : Nat)⟩
theorem upJ_len (out : List (Int × Nat)) (fin : Int) (i : Nat) : (upJ out fin i).length = out.length := by unfold upJ; simp
theorem upJ_get {out : List (Int × Nat)} {fin : Int} {i j : Nat} (hj : j < out.length) (hj2 : j < (upJ out fin i).length) : (upJ out fin i)[j] = ⟨out[j].1, if h : j + 1 < i ∧ j + 1 < out.length then (out[j + 1]'h.2).1 else if j + 1 < i then 0 else fin, (out[j].2 : Nat)⟩ := by
  have h0 : (upJ out fin i)[j]? = some ⟨(out.getD j (0, 0)).1, if j + 1 < i then (out.getD (j + 1) (0, 0)).1 else fin, ((out.getD j (0, 0)).2 : Nat)⟩ := by
    unfold upJ
    rw [List.getElem?_map, List.getElem?_range hj]; rfl
  refine (List.getElem?_eq_some_iff.1 h0).2.trans ?_
  have e1 : out.getD j (0, 0) = out[j] := by simp [hj]
  rw [e1]
  by_cases h1 : j + 1 < i
  · by_cases h2 : j + 1 < out.length
    · have e2 : out.getD (j + 1) (0, 0) = out[j + 1] := by simp [h2]
      rw [if_pos h1, dif_pos ⟨h1, h2⟩, e2]
    · have e2 : out.getD (j + 1) (0, 0) = (0, 0) := by simp [h2]
      rw [if_pos h1, dif_neg (fun h => h2 h.2), if_pos h1, e2]
  · rw [if_neg h1, dif_neg (fun h => h1 h.1), if_neg h1]
theorem upJ_one (out : List (Int × Nat)) (fin : Int) : upJ out fin 1 = out.map (strJ fin) := by
  apply List.ext_getElem
  · rw [upJ_len, List.length_map]
  · intro j h1 h2
    rw [upJ_len] at h1
    rw [upJ_get h1, List.getElem_map, dif_neg (fun h => by omega), if_neg (by omega)]; rfl
theorem upJ_end {out : List (Int × Nat)} {fin : Int} {i : Nat} (hi : i = max 1 out.length) : upJ out fin i = (untilJ out fin).map strU := by
  apply List.ext_getElem
  · rw [upJ_len, List.length_map, untilJ_len]
  · intro j h1 h2
    rw [upJ_len] at h1
    rw [upJ_get h1, List.getElem_map, untilJ_get h1]
    unfold strU
    by_cases h : j + 1 < out.length
    · rw [dif_pos ⟨by omega, h⟩]
      simp only [dif_pos h]
    · rw [dif_neg (fun hh => h hh.2), if_neg (by omega)]
      simp only [dif_neg h]
theorem upJ_step {out : List (Int × Nat)} {fin : Int} {i : Nat} (h0 : 0 < i) (hi : i < out.length) {y : StrV} (hy : (upJ out fin i)[i - 1]? = some y) : (upJ out fin i).set (i - 1) ⟨y.frm, out[i].1, y.ver⟩ = upJ out fin (i + 1) := by
  obtain ⟨hl, e⟩ := List.getElem?_eq_some_iff.1 hy
  rw [upJ_get (by omega)] at e
  apply List.ext_getElem
  · rw [List.length_set, upJ_len, upJ_len]
  · intro j h1 h2
    rw [upJ_len] at h2
    rw [List.getElem_set]
    by_cases hj : i - 1 = j
    · subst hj
      rw [if_pos rfl, ← e]
      show (⟨(out[i - 1]'(by omega)).1, out[i].1, ((out[i - 1]'(by omega)).2 : Nat)⟩ : StrV) = _
      rw [upJ_get h2, dif_pos ⟨by omega, by omega⟩]
      simp only [show i - 1 + 1 = i by omega]
    · rw [if_neg hj, upJ_get (i := i) h2, upJ_get (i := i + 1) h2]
      by_cases h3 : j + 1 < i
      · rw [dif_pos ⟨h3, by omega⟩, dif_pos ⟨by omega, by omega⟩]
      · rw [dif_neg (fun h => h3 h.1), if_neg h3, dif_neg (fun h => by omega), if_neg (by omega)]
theorem bring_next {g : Int → Option Nat} {ts : List Int} {k : Nat} (hk : k < ts.length) : bring g (ts.take (k + 1)) = bring g (ts.take k) ++ match g ts[k] with
    | some v => [(ts[k], v)]
    | none => [] := by
  unfold bring
  rw [List.take_succ_eq_append_getElem hk, List.filterMap_append]
  congr 1
  rw [List.filterMap_cons, List.filterMap_nil]
  cases g ts[k] <;> rfl
theorem bring_len (g : Int → Option Nat) (ts : List Int) : (bring g ts).length ≤ ts.length := List.length_filterMap_le _ _
section
variable {w0 w : World} {H0 H : Hp} {LL TT : List Loc}
theorem c_sortInts {v : Value} {xs : List Int} (hs : St w0 H0 H LL w) (i : Nat) (hi : LL[i]? = some (.row v 3 1 xs.length (encs xs))) (hlen : xs.length ≤ 20000) :
    CallsIn (FW none) 0 Tryz.prog 7 [v].toArray w (fun e' w' => ∃ _ : Unit, True ∧ e' = .returned (.tuple #[]) ∧ St w0 H0 H (LL.set i (.row v 3 1 (sortI xs).length (encs (sortI xs)))) w') :=
  callsFW ((c_sortI laySi hs i hi (by omega)).mono fun _ _ ⟨h1, h2⟩ => ⟨(), trivial, h1, h2⟩)
set_option maxHeartbeats 8000000 in
theorem c_stretches (l : Slc VersionV) (xs : List Int) (fin : Int) (v : Value) (ho : (atsOf l.els).Pairwise (· < ·)) (hb : l.len ≤ 400) (hx : xs.length ≤ 4000) (hxi : ∀ x ∈ xs, I64 x) (hfin : I64 fin) (hs : St w0 H0 H (.row v 3 1 xs.length (encs xs) :: TT) w) (hg : l.Good H) :
    CallsIn (FW none) 0 Tryz.prog 21 [l.v, v, intV fin].toArray w (fun e' w' => ∃ g : Hp × Slc StrV, (H.le g.1 ∧ g.2.els = (untilJ (joinJ (bring (newK (atsOf l.els)) (sortI xs))) fin).map strU ∧ g.2.Good g.1) ∧ e' = .returned g.2.v ∧ St w0 H0 g.1 TT w') := by
  have hal : (atsOf l.els).length = l.len := by unfold atsOf; rw [List.length_map, hg.len]
  refine T.enterIn (vs := [l.v, v, intV fin]) Tryz.func21 rfl rfl rfl hs ?_
  repeat (any_goals (first | (apply T.seqU 3; rfl) | refine T.region ?_ | refine TL.nil ?_ | refine N.next ?_ | (apply TL.x; rfl; rfl; (apply X.callB [v] (f := 7); (iterate 4 rfl); exact Tryz.call7; exact fun _ hs => c_sortInts hs 0 rfl (by omega)); intro _ _) | (apply TL.val; rfl; rfl; (first | exact vpure | exact vread))))
  simp only [List.set_cons_zero]
  refine T.frzRow 0 (els := sortI xs) rfl rfl rfl (fun x hxm => hxi x ((sortI_perm xs).mem_iff.1 hxm)) fun H1 ts e1 e2 e3 hle1 => ?_
  subst e1
  have hg := hg.mono hle1
  have htl := e3.len
  rw [e2, (sortI_perm xs).length_eq] at htl
  have htl2 : ts.els.length = ts.len := e3.len
  obtain ⟨ats, hats⟩ : ∃ ats, atsOf l.els = ats := ⟨_, rfl⟩
  simp only [List.eraseIdx_cons_zero]
  repeat (any_goals (first | refine T.seq ?_ | refine T.region ?_ | refine TL.nil ?_ | refine N.next ?_ | refine T.block ?_ | (apply TL.val; rfl; rfl; (first | exact vpure | exact vread))))
  refine T.nilRow 63 3 ?_
  refine T.loop (G := Value × Nat) (fun g => [(0, l.v), (2, intV fin), (7, g.1), (14, ts.v), (15, intV ts.len), (16, intV g.2)]) (fun _ => H1) (fun g => .row g.1 63 3 (bring (newK ats) (ts.els.take g.2)).length (encs ((bring (newK ats) (ts.els.take g.2)).map (strJ fin))) :: TT) (fun g => g.2 ≤ ts.len) (fun g => ts.len - g.2) (.slice none 0 0, 0) (Nat.zero_le _) (by (repeat (first | exact True.intro | refine ⟨rfl, ?_⟩ | refine Sub.int rfl (by omega) ?_))) rfl (by exact List.Sublist.refl _) ?_
  rintro ⟨v7, k⟩ hk
  simp only at hk ⊢
  by_cases hlt : k < ts.len
  · have hkl : k < ts.els.length := by omega
    have hup := bring_next (g := newK ats) hkl
    have hcl := bring_len (newK ats) (ts.els.take k)
    rw [List.length_take] at hcl
    obtain ⟨cs, hcs⟩ : ∃ cs, bring (newK ats) (ts.els.take k) = cs := ⟨_, rfl⟩
    rw [hcs] at hup hcl ⊢
    obtain ⟨t, ht⟩ : ∃ t, ts.els[k]'hkl = t := ⟨_, rfl⟩
    have c1 : H1.cell ts.b (ts.o + k * 1) = some (intV t) := by rw [← ht]; exact e3.cell0 (k := k) hlt rfl
    rw [ht] at hup
    have hgt := newI_ge ats t
    have hcN := fun {w : World} (hs : Sat H1 w) => c_newest l t ho hb hs hg
    rw [hats] at hcN
    cases hn : newK ats t with
    | none =>
      have hni := newI_none hn
      rw [hn] at hup
      simp only [List.append_nil] at hup
      rw [hni] at hcN
      repeat (any_goals (first | refine T.seq ?_ | refine T.region ?_ | refine TL.nil ?_ | refine N.next ?_ | refine N.inBlock ?_ | refine N.exit_same ?_ | refine N.exit_then ?_ | refine T.skip ?_ | refine T.exit ?_ | refine T.block ?_ | (apply T.cond_false; rfl) | (apply T.test; rfl; (exact isx); intro _; rotate_left; intro _; rotate_right) | (apply TL.val; rfl; rfl; (apply V.elem (j := k); (iterate 6 rfl); omega; exact e3.at_ (by omega))) | (apply TL.val; rfl; rfl; (apply V.load_H; rfl; rfl; rfl; exact c1)) | (apply TL.callE (f := 38) [l.v, intV t] Tryz.call38; (iterate 4 rfl); (exact fun _ hs => hcN hs.sat)) | (apply TL.val; rfl; rfl; (first | exact vpure | exact vread))))
      all_goals (try contradiction)
      all_goals (try (exfalso; omega))
      refine N.round (v7, k + 1) (by show k + 1 ≤ _; omega) (by show ts.len - (k + 1) < ts.len - k; omega) (by (repeat (first | exact True.intro | refine ⟨rfl, ?_⟩ | refine Sub.int rfl (by omega) ?_))) rfl ?_
      simp only [hup]
      exact List.Sublist.refl _
    | some j =>
      have hni := newI_some hn
      rw [hn] at hup
      simp only at hup
      rw [hni] at hcN
      obtain ⟨x, hx2⟩ : ∃ x, strJ fin (t, j) = x := ⟨_, rfl⟩
      have hxe : enc x = [intV t, intV fin, intV j] := by rw [← hx2]; rfl
      have hxs : encs ((cs ++ [(t, j)]).map (strJ fin)) = encs (cs.map (strJ fin)) ++ enc x := by rw [List.map_append, encs_append, List.map_cons, List.map_nil, hx2]; show _ ++ (enc x ++ []) = _; rw [List.append_nil]
      rw [hxe] at hxs
      repeat (any_goals (first | refine T.seq ?_ | refine T.region ?_ | refine TL.nil ?_ | refine N.next ?_ | refine N.inBlock ?_ | refine N.exit_same ?_ | refine N.exit_then ?_ | refine T.skip ?_ | refine T.exit ?_ | refine T.block ?_ | (apply T.cond_true; rfl) | (apply T.test; rfl; (exact isx); intro _; rotate_left; intro _; rotate_right) | (apply TL.val; rfl; rfl; (apply V.elem (j := k); (iterate 6 rfl); omega; exact e3.at_ (by omega))) | (apply TL.val; rfl; rfl; (apply V.load_H; rfl; rfl; rfl; exact c1)) | (apply TL.callE (f := 38) [l.v, intV t] Tryz.call38; (iterate 4 rfl); (exact fun _ hs => hcN hs.sat)) | (apply TL.val; rfl; rfl; (apply V.build; (iterate 6 rfl))) | (apply TL.x; rfl; rfl; (apply X.buildSlice1 (d := 30); (iterate 8 rfl)); intro b30 _) | (apply TL.x; rfl; rfl; (apply X.append1 1; (iterate 9 rfl); exact List.Mem.head _; rfl; rfl; rfl; (refine Nat.le_trans (Nat.mul_le_mul_right _ (show _ ≤ 20001 by omega)) ?_; decide); omega); intro pa _) | (apply TL.val; rfl; rfl; (first | exact vpure | exact vread))))
      all_goals (try contradiction)
      all_goals (try (exfalso; omega))
      refine N.round (.slice (some ⟨pa.1, 0, none⟩) (cs.length + 1) pa.2, k + 1) (by show k + 1 ≤ _; omega) (by show ts.len - (k + 1) < ts.len - k; omega) (by (repeat (first | exact True.intro | refine ⟨rfl, ?_⟩ | refine Sub.int rfl (by omega) ?_))) rfl ?_
      simp only [hup, hxs, List.length_append, List.length_cons, List.length_nil, Nat.zero_add]
      exact List.sublist_cons_self _ _
  · have hke : k = ts.len := by omega
    subst hke
    rw [List.take_of_length_le (by omega), e2]
    have hbl := bring_len (newK ats) (sortI xs)
    rw [(sortI_perm xs).length_eq] at hbl
    have hbm : ∀ p ∈ bring (newK ats) (sortI xs), I64 p.1 ∧ I64 (p.2 : Int) := fun p hp => by
      obtain ⟨h1, h2⟩ := mem_bring hp
      have h3 := newK_lt h2
      refine ⟨hxi _ ((sortI_perm xs).mem_iff.1 h1), ?_⟩
      have : ats.length = l.len := by rw [← hats]; exact hal
      unfold I64; omega
    obtain ⟨ps, hps⟩ : ∃ ps, bring (newK ats) (sortI xs) = ps := ⟨_, rfl⟩
    rw [hps] at hbl hbm ⊢
    refine T.frzRow 0 (els := ps.map (strJ fin)) rfl rfl (List.length_map ..) (fun y hy => ?_) fun H2 al a1 a2 a3 hle2 => ?_
    · obtain ⟨p, hp, rfl⟩ := List.mem_map.1 hy
      exact ⟨(hbm p hp).1, hfin, (hbm p hp).2⟩
    subst a1
    have hall := a3.len
    rw [a2, List.length_map] at hall
    simp only [List.eraseIdx_cons_zero]
    repeat (any_goals (first | refine T.seq ?_ | refine T.region ?_ | refine TL.nil ?_ | refine N.next ?_ | refine N.exit_same ?_ | refine N.exit_then ?_ | refine T.skip ?_ | refine T.exit ?_ | refine T.block ?_ | (apply T.test; rfl; (exact isx); intro _; rotate_left; intro _; rotate_right) | (apply TL.x; rfl; rfl; (apply X.callO0 (f := 39) Tryz.call39; rfl; rfl; exact fun _ hs => c_joinS al fin ps a2 (by omega) hs.sat a3); rintro o ⟨ho1, _⟩) | (apply TL.val; rfl; rfl; (first | exact vpure | exact vread))))
    all_goals (try contradiction)
    all_goals (try (exfalso; omega))
    have hjl := joinJ_len ps
    have hjm : ∀ p ∈ joinJ ps, I64 p.1 ∧ I64 (p.2 : Int) := fun p hp => hbm p ((joinJ_sub ps).subset hp)
    obtain ⟨out, hout⟩ : ∃ out, joinJ ps = out := ⟨_, rfl⟩
    rw [hout] at ho1 hjl hjm ⊢
    rw [← upJ_one]
    refine T.loop (G := Nat) (fun i => [(7, rowOf o out.length), (11, intV i)]) (fun _ => H2) (fun i => .row (rowOf o out.length) 63 3 out.length (encs (upJ out fin i)) :: TT) (fun i => 1 ≤ i ∧ i ≤ max 1 out.length) (fun i => out.length - i) 1 ⟨Nat.le_refl _, by omega⟩ (by (repeat (first | exact True.intro | refine ⟨rfl, ?_⟩ | refine Sub.int rfl (by omega) ?_))) rfl (by exact List.Sublist.refl _) ?_
    rintro i ⟨hi1, hi2⟩
    by_cases hlt : i < out.length
    · obtain ⟨p, rfl⟩ : ∃ p, o = some p := by
        cases o with
        | none => have := ho1.1 rfl; subst this; simp at hlt
        | some p => exact ⟨p, rfl⟩
      have hul := upJ_len out fin i
      obtain ⟨y, hy⟩ : ∃ y, (upJ out fin i)[i - 1]? = some y := ⟨_, List.getElem?_eq_getElem (by omega)⟩
      have hz : (upJ out fin i)[i]? = some ((upJ out fin i)[i]'(by omega)) := List.getElem?_eq_getElem _
      have hzf : ((upJ out fin i)[i]'(by omega)).frm = out[i].1 := by rw [upJ_get hlt]
      have c0 : (encs (upJ out fin i))[0 + i * 3 + 0]? = some (intV out[i].1) := by
        rw [show 0 + i * 3 + 0 = i * Enc.size StrV + 0 by show _ = i * 3 + 0; omega]
        refine encs_get (upJ out fin i) i 0 _ _ hz ?_
        rw [← hzf]; rfl
      have hset := upJ_step (fin := fin) hi1 hlt hy
      simp only [rowOf]
      repeat (any_goals (first | refine T.seq ?_ | refine T.region ?_ | refine TL.nil ?_ | refine N.next ?_ | refine N.inBlock ?_ | refine N.exit_same ?_ | refine N.exit_then ?_ | refine T.ret ?_ | refine T.skip ?_ | refine T.exit ?_ | refine T.block ?_ | (apply T.test; rfl; (exact isx); intro _; rotate_left; intro _; rotate_right) | (apply TL.val; rfl; rfl; (apply V.elem (j := i); (iterate 6 rfl); omega; rfl)) | (apply TL.val; rfl; rfl; (apply V.elem (j := i - 1); (iterate 5 rfl); omega; omega; rfl)) | (apply TL.val; rfl; rfl; (apply V.load_own; rfl; rfl; rfl; exact List.Mem.head _; exact c0)) | (apply TL.x; rfl; rfl; (exact X.storeRowE 0 (vs := [intV out[i].1]) rfl rfl rfl rfl rfl rfl rfl (by show 0 + (i - 1) * 3 + 1 + 1 ≤ out.length * 3; omega) (encs_put (j := 1) (y := ⟨y.frm, out[i].1, y.ver⟩) hy (by show 1 + 1 ≤ 3; omega) rfl (by show 0 + (i - 1) * 3 + 1 = (i - 1) * 3 + 1; omega))); intro _ _) | (apply TL.val; rfl; rfl; (first | exact vpure | exact vread))))
      all_goals (try contradiction)
      all_goals (try (exfalso; omega))
      refine N.round (i + 1) ⟨by omega, by omega⟩ (by show out.length - (i + 1) < out.length - i; omega) (by (repeat (first | exact True.intro | refine ⟨rfl, ?_⟩ | refine Sub.int rfl (by omega) ?_))) rfl ?_
      simp only [rowOf, List.set_cons_zero, hset]
      exact List.Sublist.refl _
    · have hie : i = max 1 out.length := by omega
      rw [upJ_end hie]
      refine T.frzRow 0 (els := (untilJ out fin).map strU) rfl rfl (by rw [List.length_map, untilJ_len]) (fun y hy => ?_) fun H3 bl b1 b2 b3 hle3 => ?_
      · obtain ⟨q, hq, rfl⟩ := List.mem_map.1 hy
        obtain ⟨j, hj, rfl⟩ := List.mem_iff_getElem.1 hq
        have hjo : j < out.length := by rwa [untilJ_len] at hj
        have h1 := hjm _ (List.getElem_mem hjo)
        rw [untilJ_get hjo]
        refine ⟨h1.1, ?_, h1.2⟩
        show I64 (if h : j + 1 < out.length then (out[j + 1]'h).1 else fin)
        split
        · rename_i h; exact (hjm _ (List.getElem_mem h)).1
        · exact hfin
      have b4 := b3.len
      rw [b2, List.length_map, untilJ_len] at b4
      rw [← b1]
      simp only [List.eraseIdx_cons_zero]
      repeat (any_goals (first | refine T.seq ?_ | refine T.region ?_ | refine TL.nil ?_ | refine N.next ?_ | refine N.exit_same ?_ | refine N.exit_then ?_ | refine T.ret ?_ | refine T.skip ?_ | refine T.exit ?_ | refine T.block ?_ | (apply T.test; rfl; (exact isx); intro _; rotate_left; intro _; rotate_right) | (apply TL.val; rfl; rfl; (first | exact vpure | exact vread))))
      all_goals (try contradiction)
      all_goals (try (exfalso; omega))
      exact N.ret1 rfl (by (exact rvx)) fun w1 hst => ⟨(H3, bl), ⟨(hle1.trans hle2).trans hle3, by rw [b2, hats, hps, hout], b3⟩, rfl, hst⟩
end
end Go.Proofs.YthabgdbhgcgemaaGreatDoor
