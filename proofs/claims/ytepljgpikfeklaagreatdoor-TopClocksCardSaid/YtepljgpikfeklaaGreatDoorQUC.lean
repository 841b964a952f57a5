import Derived.Test.YtepljgpikfeklaaGreatDoorQUA
namespace Go.Proofs.YtepljgpikfeklaaGreatDoor
set_option linter.unusedVariables false
set_option linter.unusedSimpArgs false
open Go Go.RowKit
open Enc (enc)
set_option maxRecDepth 20000
set_option maxHeartbeats 8000000 in
theorem c_All (h : HistV) (hh : HistOK h) (hfew : FewH h) {H : Hp} {w : World} (hs : Sat H w) (hR : Rules H) (hT : Pow10 H) (hgd : Enc.good H h) : Calls Tryz.prog 34 #[.agg (enc h).toArray] w (RetF w H (fun p : Hp × Slc HeldV => AllOK h p.2.els ∧ p.2.Good p.1) (fun p => .tuple #[p.2.v, intV 0]) (fun p => p.1)) := by
  have hf20 := hfew.copies
  have hcl := hgd.2.1.len
  have hzone : ∀ c ∈ h.copies.els, ZonedR c.zone.c := fun c hc => by
    obtain ⟨j, hj, rfl⟩ := List.mem_iff_getElem.1 hc
    exact (hh.each j hj hj).1.zone
  have hvalid : ∀ c ∈ h.copies.els, ∀ s ∈ c.zone.sets.els, ValidS s.c := fun c hc s hs => zoned_valid (hzone c hc) (hgd.2.1.els c hc).2.2.2 hs
  refine T.enter (vs := [.agg (enc h).toArray]) (H := H) Tryz.func34 rfl rfl rfl hs ?_
  repeat (any_goals (first | refine T.seq ?_ | refine T.region ?_ | refine TL.nil ?_ | refine N.next ?_ | refine T.skip ?_ | refine T.block ?_ | (apply T.cond_false; rfl) | (apply TL.x; rfl; rfl; (apply X.box (d := 1); rfl; rfl; rfl); intro b1 _; apply TL.frzZ 0; rfl; intro H1 z1 hle1; have hgd := Enc.mono hle1 hgd; have hR := Rules.mono hle1 hR; have hT := Pow10.mono hle1 hT) | (apply TL.val; rfl; rfl; (apply V.load_H_row; rfl; rfl; rfl; exact z1; rfl)) | (apply TL.x; rfl; rfl; (apply X.callFE (f := 71) [.agg (enc h).toArray] Tryz.call71; rfl; rfl; rfl; exact (fun _ hs => c_Zones h hh hs.sat hR hgd)); rintro ⟨Hz, zs⟩ ⟨⟨hp1, hp2⟩, hp3⟩; have hgd := Enc.mono hp3 hgd; have hR := Rules.mono hp3 hR; have hT := Pow10.mono hp3 hT; have z1 := Hp.cells_le hp3 z1) | (apply TL.val; rfl; rfl; (first | exact vpure | exact vread))))
  all_goals (try contradiction)
  have hzl : zs.els.length = zs.len := hp2.len
  have hzm := hp2.lim
  simp only at hzm
  have hnd : zs.els.Nodup := hp1.nodup_iff.2 (uniqC_nodup _)
  have hzin : ∀ z ∈ zs.els, nameOK z = true ∧ ∃ c ∈ h.copies.els, c.zone.apex = z := fun z hz => by
    have hu := hp1.mem_iff.1 hz
    refine ⟨uniqC_names hh z hu, ?_⟩
    have := uniqC_mem.1 hu
    unfold apexesOf at this
    obtain ⟨c, hc, e⟩ := List.mem_map.1 this
    exact ⟨c, hc, e⟩
  have hzall : ∀ c ∈ h.copies.els, c.zone.apex ∈ zs.els := fun c hc => by
    refine hp1.mem_iff.2 (uniqC_mem.2 ?_)
    unfold apexesOf
    exact List.mem_map.2 ⟨c, hc, rfl⟩
  have hsum : ∀ k, ((zs.els.take k).map fun z => (copiesZ h z).length).sum ≤ 20 := fun k => by
    have h1 := sum_filter (hnd.sublist (List.take_sublist k zs.els)) h.copies.els
    have h2 : ((zs.els.take k).map fun z => (copiesZ h z).length).sum ≤ h.copies.els.length := h1
    omega
  refine T.nilRow 96 8 ?_
  refine T.loop (G := Hp × Value × Nat × List HeldV) (fun g => [(1, .pointer (some ⟨b1, 0, none⟩)), (6, g.2.1), (21, zs.v), (22, intV zs.len), (23, intV g.2.2.1)]) (fun g => g.1) (fun g => [.row g.2.1 96 8 g.2.2.2.length (encs g.2.2.2)]) (fun g => g.2.2.1 ≤ zs.len ∧ Gath h (zs.els.take g.2.2.1) g.1 g.2.2.2 ∧ Hz.le g.1) (fun g => zs.len - g.2.2.1) (Hz, .slice none 0 0, 0, []) ⟨Nat.zero_le _, Gath.start, .refl _⟩ (by (repeat (first | exact True.intro | refine ⟨rfl, ?_⟩ | refine Sub.int rfl (by omega) ?_))) rfl (by (repeat (first | exact List.Sublist.refl _ | exact List.nil_sublist _ | apply List.Sublist.cons_cons | apply List.Sublist.cons))) ?_
  rintro ⟨Hk, v, k, out⟩ ⟨hk, hga, hlek⟩
  simp only at hk hga hlek ⊢
  have hol := hga.len
  have hsk := hsum k
  have hgk := Enc.mono hlek hgd
  have hRk := Rules.mono hlek hR
  have hTk := Pow10.mono hlek hT
  have z1k := Hp.cells_le hlek z1
  have hp2k := hp2.mono hlek
  by_cases hlt : k < zs.len
  · have hkl : k < zs.els.length := by omega
    obtain ⟨z, hz⟩ : ∃ z, zs.els[k]'hkl = z := ⟨_, rfl⟩
    obtain ⟨hzn, hzc⟩ := hzin z (hz ▸ List.getElem_mem hkl)
    have hcell : Hk.cell zs.b (zs.o + k * 1 + 0) = some (strV z) := by rw [← hz]; exact hp2k.cell (k := k) (j := 0) hlt rfl
    have hup : zs.els.take (k + 1) = zs.els.take k ++ [z] := by rw [List.take_succ_eq_append_getElem hkl, hz]
    have hsk1 := hsum (k + 1)
    have hzle : (copiesZ h z).length ≤ 20 := by rw [hup, List.map_append, List.sum_append] at hsk1; simp only [List.map_cons, List.map_nil, List.sum_cons, List.sum_nil] at hsk1; omega
    have hnx := fun {H' : Hp} (hle : Hk.le H') {l : List HeldV} (p : PubOK h z l) (hl : ∀ y ∈ l, Enc.good H' y) => hga.next hle p hl
    rw [← hup] at hnx
    repeat (any_goals (first | refine T.seq ?_ | refine T.region ?_ | refine TL.nil ?_ | refine N.next ?_ | refine N.inBlock ?_ | refine N.exit_same ?_ | refine N.exit_then ?_ | refine N.ret_then ?_ | refine N.ret_block ?_ | refine T.ret ?_ | refine T.skip ?_ | refine T.exit ?_ | refine T.block ?_ | (apply T.cond_false; rfl) | (apply T.test; rfl; (exact isx); intro _; rotate_left; intro _; rotate_right) | (apply TL.val; rfl; rfl; (apply V.load_H; rfl; rfl; rfl; exact hcell)) | (apply TL.val; rfl; rfl; (apply V.load_H_row; rfl; rfl; rfl; exact z1k; rfl)) | (apply TL.x; rfl; rfl; (apply X.callFE (f := 72) [.agg (enc h).toArray, strV z] Tryz.call72; rfl; rfl; rfl; exact (fun _ hs => c_Published h z hh hfew hzn hzc hs.sat hRk hTk hgk)); rintro ⟨Hp1, l⟩ ⟨⟨hq1, hq2⟩, hq3⟩; have hpk := pubOK hq1 (fun c hc => hvalid c (List.mem_filter.1 hc).1) hzle; have hll : l.els.length ≤ 100 * (copiesZ h z).length := hpk.len; have hlg : l.els.length = l.len := hq2.len; have hnx1 := hnx hq3 hpk hq2.els; have hnl : (out ++ l.els).length ≤ 100 * ((zs.els.take (k + 1)).map fun z => (copiesZ h z).length).sum := hnx1.len; have hal : (out ++ l.els).length = out.length + l.len := (by rw [List.length_append, hlg])) | (apply TL.x; rfl; rfl; (apply X.appendSlc 0 l; (iterate 10 rfl); exact hq2; (refine Nat.le_trans (Nat.mul_le_mul_right _ (show _ ≤ 20001 by omega)) ?_; decide); omega); intro v' _) | (apply TL.val; rfl; rfl; (apply V.len_row; (iterate 4 rfl); (exact lmem))) | (apply TL.val; rfl; rfl; (first | exact vpure | exact vread))))
    all_goals (try contradiction)
    all_goals (try (exfalso; omega))
    refine N.round (Hp1, v', k + 1, out ++ l.els) ⟨by show k + 1 ≤ _; omega, hnx1, hlek.trans hq3⟩ (by show zs.len - (k + 1) < zs.len - k; omega) (by (repeat (first | exact True.intro | refine ⟨rfl, ?_⟩ | refine Sub.int rfl (by omega) ?_))) rfl ?_
    show List.Sublist [Loc.row v' 96 8 (out ++ l.els).length (encs (out ++ l.els))] _
    rw [hal, encs_append]
    exact List.Sublist.refl _
  · have hke : k = zs.len := by omega
    subst hke
    have htk : zs.els.take zs.len = zs.els := List.take_of_length_le (by omega)
    rw [htk] at hga
    have ho2 : out.length ≤ 2000 := by omega
    have hput : ∀ x ∈ out, MidS x.signed.c ∧ (∀ f ∈ x.fresh.els, 0 ≤ f.frm ∧ f.frm ≤ f.til ∧ f.til ≤ 10000000) := fun x hx => by
      have he := hga.each x hx
      obtain ⟨c, hc, _, s, hs, e⟩ := he.src
      refine ⟨by rw [e]; exact zoned_mid (hzone c hc) hs, fun f hf => ?_⟩
      obtain ⟨⟨a, ha, e1⟩, b, hb, e2⟩ := he.ends f hf
      have h1 := he.full f hf
      have h2 := hh.fin
      obtain ⟨ia, hia, rfl⟩ := List.mem_iff_getElem.1 ha
      obtain ⟨ib, hib, rfl⟩ := List.mem_iff_getElem.1 hb
      have h3 := (hh.each ia hia hia).1.frm
      have h4 := (hh.each ib hib hib).1.fin
      omega
    refine T.shapeU 0 rfl ?_
    intro o cp hv h0
    obtain _ | po := o
    · obtain ⟨h1, rfl⟩ := h0 rfl
      have hout : out = [] := List.length_eq_zero_iff.1 h1
      subst hout hv
      repeat (any_goals (first | refine T.seq ?_ | refine T.region ?_ | refine TL.nil ?_ | refine N.next ?_ | refine N.exit_same ?_ | refine N.exit_then ?_ | refine T.skip ?_ | refine T.exit ?_ | refine T.block ?_ | (apply T.test; rfl; (exact isx); intro _; rotate_left; intro _; rotate_right) | (apply TL.val; rfl; rfl; (apply V.len_row; (iterate 4 rfl); (exact lmem))) | (apply TL.val; rfl; rfl; (first | exact vpure | exact vread))))
      all_goals (try contradiction)
      all_goals (try (exfalso; omega))
      refine T.loop (G := Unit) (fun _ => [(6, .slice none 0 0), (44, intV 0), (45, intV 0)]) (fun _ => Hk) (fun _ => []) (fun _ => True) (fun _ => 0) () trivial (by (repeat (first | exact True.intro | refine ⟨rfl, ?_⟩ | refine Sub.int rfl (by omega) ?_))) rfl (by (repeat (first | exact List.Sublist.refl _ | exact List.nil_sublist _ | apply List.Sublist.cons_cons | apply List.Sublist.cons))) ?_
      rintro ⟨⟩ -
      repeat (any_goals (first | refine T.seq ?_ | refine T.region ?_ | refine TL.nil ?_ | refine N.next ?_ | refine N.exit_same ?_ | refine N.exit_then ?_ | refine T.ret ?_ | refine T.exit ?_ | (apply T.cond_false; rfl) | (apply TL.val; rfl; rfl; (first | exact vpure | exact vread))))
      all_goals (try contradiction)
      refine N.ret2 rfl (by (exact rvx)) (by (exact rvx)) fun w hst => ?_
      exact ⟨(Hk, Slc.nil _), ⟨allOK (H := Hk) hga hzall ⟨rfl, fun y hy => (by cases hy), fun x hx => (by cases hx)⟩ (Nat.zero_le _), Slc.nil_good⟩, rfl, hst.fresh⟩
    · subst hv
      clear h0
      repeat (any_goals (first | refine T.seq ?_ | refine T.region ?_ | refine TL.nil ?_ | refine N.next ?_ | refine N.exit_same ?_ | refine N.exit_then ?_ | refine T.skip ?_ | refine T.exit ?_ | refine T.block ?_ | (apply T.test; rfl; (exact isx); intro _; rotate_left; intro _; rotate_right) | (apply TL.val; rfl; rfl; (apply V.len_row; (iterate 4 rfl); (exact lmem))) | (apply TL.val; rfl; rfl; (first | exact vpure | exact vread))))
      all_goals (try contradiction)
      all_goals (try (exfalso; omega))
      refine T.loop (G := Hp × Nat × List HeldV) (fun g => [(1, .pointer (some ⟨b1, 0, none⟩)), (6, .slice (some ⟨po, 0, none⟩) out.length cp), (43, .slice (some ⟨po, 0, none⟩) out.length cp), (44, intV out.length), (45, intV g.2.1)]) (fun g => g.1) (fun g => [.row (.slice (some ⟨po, 0, none⟩) out.length cp) 96 8 out.length (encs (g.2.2 ++ out.drop g.2.1))]) (fun g => g.2.1 ≤ out.length ∧ Used h g.1 out g.2.2 g.2.1 ∧ Hk.le g.1) (fun g => out.length - g.2.1) (Hk, 0, []) ⟨Nat.zero_le _, ⟨rfl, fun y hy => (by cases hy), fun x hx => (by cases hx)⟩, .refl _⟩ (by (repeat (first | exact True.intro | refine ⟨rfl, ?_⟩ | refine Sub.int rfl (by omega) ?_))) rfl (by (first | exact List.Sublist.refl _ | exact List.nil_sublist _ | exact List.Sublist.cons _ (List.Sublist.refl _) | exact List.Sublist.cons _ (List.Sublist.cons _ (List.Sublist.refl _)))) ?_
      rintro ⟨Hm, k, done⟩ ⟨hk, hd, hlem⟩
      simp only at hk hd hlem ⊢
      have z1m := Hp.cells_le hlem z1k
      have hgm := Enc.mono hlem hgk
      by_cases hlt : k < out.length
      · obtain ⟨x, hx⟩ : ∃ x, out[k]'hlt = x := ⟨_, rfl⟩
        have hdrop : out.drop k = x :: out.drop (k + 1) := by rw [← hx]; exact List.drop_eq_getElem_cons hlt
        have hget : out[k]? = some x := by rw [List.getElem?_eq_getElem hlt, hx]
        have hxm := List.mem_of_getElem? hget
        have hxg : Enc.good Hm x := Enc.mono hlem (hga.good x hxm)
        obtain ⟨hmid, hfr⟩ := hput x hxm
        have hfl : x.fresh.len ≤ 2000 := by have h1 := hxg.2.2.1.len; have h2 := (hga.each x hxm).flen; omega
        have hx8 : (done ++ out.drop k)[k]? = some x := by
          rw [List.getElem?_append_right (by rw [hd.len]; exact Nat.le_refl _), hd.len, Nat.sub_self, hdrop]; rfl
        have hset8 : ∀ y, (done ++ out.drop k).set k y = (done ++ [y]) ++ out.drop (k + 1) := fun y => by
          rw [hdrop, List.set_append_right _ _ (by rw [hd.len]; exact Nat.le_refl _), hd.len, Nat.sub_self, List.append_assoc]; rfl
        have hdr := hh.drift
        repeat (any_goals (first | refine T.seq ?_ | refine T.region ?_ | refine TL.nil ?_ | refine N.next ?_ | refine N.inBlock ?_ | refine N.exit_same ?_ | refine N.exit_then ?_ | refine T.ret ?_ | refine T.skip ?_ | refine T.exit ?_ | refine T.block ?_ | (apply T.test; rfl; (exact isx); intro _; rotate_left; intro _; rotate_right) | (apply TL.val; rfl; rfl; (apply V.elem (j := k); (iterate 6 rfl); omega; rfl)) | (apply TL.val; rfl; rfl; (apply V.load_own_row; rfl; rfl; rfl; (exact lmem); exact encs_rowat hx8 (show 0 + k * 8 = k * 8 by omega); rfl)) | (apply TL.x; rfl; rfl; (apply X.alloc (d := 12); rfl; rfl; rfl); intro b12 _) | (apply TL.x; rfl; rfl; (apply X.storeTo 0 (enc x); (iterate 10 rfl)); intro _ _) | (apply TL.val; rfl; rfl; (apply V.load_H; rfl; rfl; rfl; exact z1m 7 _ rfl)) | (apply TL.x; rfl; rfl; (apply X.callFE (f := 73) [.agg (enc x).toArray, intV h.drift] Tryz.call73; rfl; rfl; rfl; exact (fun _ hs => c_used x h.drift hs.sat hxg hmid hdr hfr hfl)); rintro ⟨Hn, sn⟩ ⟨⟨hn1, hn2⟩, hn3⟩) | (apply TL.x; rfl; rfl; (exact X.storeRowE 1 (vs := [sn.v]) (ys := encs ((done ++ [(⟨x.zone, x.signed, x.fresh, sn⟩ : HeldV)]) ++ out.drop (k + 1))) rfl rfl rfl rfl rfl rfl rfl (by show 0 + k * 8 + 7 + 1 ≤ out.length * 8; omega) ((encs_put (y := ⟨x.zone, x.signed, x.fresh, sn⟩) hx8 (by show 7 + 1 ≤ 8; omega) rfl (by show 0 + k * 8 + 7 = k * 8 + 7; omega)).trans (congrArg encs (hset8 _)))); intro _ _) | (apply TL.val; rfl; rfl; (first | exact vpure | exact vread))))
        all_goals (try contradiction)
        all_goals (try (exfalso; omega))
        refine N.round (Hn, k + 1, done ++ [(⟨x.zone, x.signed, x.fresh, sn⟩ : HeldV)]) ⟨by show k + 1 ≤ _; omega, hd.more hget ⟨rfl, rfl, rfl, hn1, hn2⟩ hn3, hlem.trans hn3⟩ (by show out.length - (k + 1) < out.length - k; omega) (by (repeat (first | exact True.intro | refine ⟨rfl, ?_⟩ | refine Sub.int rfl (by omega) ?_))) rfl (.cons _ (List.Sublist.refl _))
      · have hke : k = out.length := by omega
        subst hke
        have hd0 : out.drop out.length = [] := List.drop_length
        rw [hd0, List.append_nil]
        have hdl := hd.len
        have hgood : ∀ y ∈ done, Enc.good Hm y := fun y hy => by
          obtain ⟨x, hx, hn⟩ := hd.from y hy
          have hp := Enc.mono hlem (hga.good x hx)
          exact ⟨by rw [hn.zone]; exact hp.1, by rw [hn.signed]; exact hp.2.1, by rw [hn.fresh]; exact hp.2.2.1, hn.good⟩
        repeat (any_goals (first | refine T.seq ?_ | refine T.region ?_ | refine TL.nil ?_ | refine N.next ?_ | refine N.exit_same ?_ | refine N.exit_then ?_ | refine T.ret ?_ | refine T.skip ?_ | refine T.exit ?_ | refine T.block ?_ | (apply T.test; rfl; (exact isx); intro _; rotate_left; intro _; rotate_right) | (apply TL.val; rfl; rfl; (first | exact vpure | exact vread))))
        all_goals (try contradiction)
        all_goals (try (exfalso; omega))
        refine N.ret2 rfl (by (exact rvx)) (by (exact rvx)) fun w hst => ?_
        obtain ⟨H', s, e1, e2, e3, e4, e5⟩ := hst.freezeRow rfl hdl hgood
        exact ⟨(H', s), ⟨by rw [e2]; exact allOK hga hzall hd ho2, e3⟩, by rw [← e1], e5.fresh⟩
end Go.Proofs.YtepljgpikfeklaaGreatDoor
namespace Go.Proofs.YtepljgpikfeklaaGreatDoor
set_option linter.unusedVariables false
set_option linter.unusedSimpArgs false
open Go Go.RowKit
open Enc (enc)
set_option maxRecDepth 20000
def atZ (all : Slc HeldV) (t : Int) : List HeldV := all.els.filter fun x => hasAny x.spans.els t
theorem c_hat (all : Slc HeldV) (t : Int) {H : Hp} {w : World} (hs : Sat H w) : Calls Tryz.prog 35 #[all.v, intV t] w (RetF w H (fun g : Hp × Nat × Nat => H.le g.1 ∧ g.1.cells g.2.1 0 [all.v] ∧ g.1.cells g.2.2 0 [intV t]) (fun g => .func (.func 74) #[] #[.pointer (some ⟨g.2.1, 0, none⟩), .pointer (some ⟨g.2.2, 0, none⟩)]) (fun g => g.1)) := by
  refine T.enter (vs := [all.v, intV t]) (H := H) Tryz.func35 rfl rfl rfl hs ?_
  repeat (any_goals (first | refine T.seq ?_ | refine T.region ?_ | refine TL.nil ?_ | refine N.next ?_ | refine T.ret ?_ | (apply TL.x; rfl; rfl; (apply X.box (d := 2); rfl; rfl; rfl); intro b2 _; apply TL.frzZ 0; rfl; intro H1 z1 hle1) | (apply TL.x; rfl; rfl; (apply X.box (d := 3); rfl; rfl; rfl); intro b3 _; apply TL.frzZ 0; rfl; intro H2 z2 hle2) | (apply TL.val; rfl; rfl; ((apply V.makeFunc (vs := []) (us := [.pointer (some ⟨b2, 0, none⟩), .pointer (some ⟨b3, 0, none⟩)]) <;> rfl))) | (apply TL.val; rfl; rfl; (first | exact vpure | exact vread))))
  exact N.ret1 rfl (by (exact rvx)) fun w1 hst => ⟨(H2, b2, b3), ⟨hle1.trans hle2, Hp.cells_le hle2 z1, z2⟩, rfl, hst.fresh⟩
set_option maxHeartbeats 2000000 in
theorem c_hat1 (all : Slc HeldV) (t : Int) (ba bt : Nat) {Hc : Hp} (hc : Hc.cells ba 0 [all.v]) (hz : Hc.cells bt 0 [intV t]) (hg : all.Good Hc) {G : Type} (Φ : Nat → G → Prop) (Φs : G → Prop) (HH : G → Hp) (LL : G → List Loc) {w0 : World} {H0 : Hp} {rl : Nat} (hle : ∀ k g, Φ k g → Hc.le (HH g))
    (hy : ∀ k g, Φ k g → ∀ (hk : k < (atZ all t).length) w, St w0 H0 (HH g) (LL g) w → YieldAt (FW none) 0 Tryz.prog rl #[.agg (enc (atZ all t)[k]).toArray] w (fun e w' => ∃ b g', e = .returned (.bool b) ∧ (if b = true then Φ (k + 1) g' else Φs g') ∧ St w0 H0 (HH g') (LL g') w'))
    (g0 : G) (h0 : Φ 0 g0) {w : World} (hs : St w0 H0 (HH g0) (LL g0) w) :
    CallsIn (FW none) 0 Tryz.prog 74 #[.func (.yield rl) #[] #[], .pointer (some ⟨ba, 0, none⟩), .pointer (some ⟨bt, 0, none⟩)] w (fun e w' => ∃ v g, e = .returned v ∧ (Φ (atZ all t).length g ∨ Φs g) ∧ St w0 H0 (HH g) (LL g) w') := by
  have hlen := hg.len
  have hlim := hg.lim
  have hle0 := hle 0 g0 h0
  have hc0 : (HH g0).cells ba 0 [all.v] := Hp.cells_le hle0 hc
  refine T.enterIn (vs := [.func (.yield rl) #[] #[], .pointer (some ⟨ba, 0, none⟩), .pointer (some ⟨bt, 0, none⟩)]) Tryz.func74 rfl rfl rfl hs ?_
  repeat (any_goals (first | refine T.seq ?_ | refine T.region ?_ | refine TL.nil ?_ | refine N.next ?_ | refine T.block ?_ | (apply TL.val; rfl; rfl; (apply V.load_H; rfl; rfl; rfl; exact hc0 0 _ rfl)) | (apply TL.val; rfl; rfl; (first | exact vpure | exact vread))))
  refine T.loop (G := Nat × G) (fun p => [(0, .func (.yield rl) #[] #[]), (1, .pointer (some ⟨ba, 0, none⟩)), (2, .pointer (some ⟨bt, 0, none⟩)), (6, all.v), (7, intV all.len), (8, intV p.1)]) (fun p => HH p.2) (fun p => LL p.2) (fun p => p.1 ≤ all.len ∧ Φ ((all.els.take p.1).filter fun x => hasAny x.spans.els t).length p.2) (fun p => all.len - p.1) (0, g0) ⟨Nat.zero_le _, h0⟩ (by (repeat (first | exact True.intro | refine ⟨rfl, ?_⟩ | refine Sub.int rfl (by omega) ?_))) rfl (by (first | exact List.Sublist.refl _ | exact List.nil_sublist _ | exact List.Sublist.cons _ (List.Sublist.refl _) | exact List.Sublist.cons _ (List.Sublist.cons _ (List.Sublist.refl _)))) ?_
  rintro ⟨j, g⟩ ⟨hj, hΦ⟩
  simp only at hj hΦ ⊢
  have hleg := hle _ g hΦ
  have hz1 := Hp.cells_le hleg hz
  have hg1 : all.Good (HH g) := hg.mono hleg
  by_cases hlt : j < all.len
  · have hjl : j < all.els.length := by omega
    have hrow := hg1.row (k := j) hlt
    have hxg := hg1.els _ (List.getElem_mem hjl)
    have htk : (all.els.take (j + 1)).filter (fun x => hasAny x.spans.els t) = (all.els.take j).filter (fun x => hasAny x.spans.els t) ++ if hasAny all.els[j].spans.els t = true then [all.els[j]] else [] := filter_take _ hjl
    by_cases hu : hasAny all.els[j].spans.els t = true
    · obtain ⟨hk, hk2⟩ := filter_at (p := fun x : HeldV => hasAny x.spans.els t) hjl hu
      rw [if_pos hu] at htk
      have hY := hy _ g hΦ hk
      have hk3 : (atZ all t)[((all.els.take j).filter fun x => hasAny x.spans.els t).length]'hk = all.els[j] := hk2
      rw [hk3] at hY
      obtain ⟨x, hx⟩ : ∃ x, all.els[j]'hjl = x := ⟨_, rfl⟩
      rw [hx] at hY hu htk hxg
      try rw [hx] at hrow
      repeat (any_goals (first | refine T.seq ?_ | refine T.region ?_ | refine TL.nil ?_ | refine N.next ?_ | refine N.inBlock ?_ | refine N.exit_same ?_ | refine N.exit_then ?_ | refine N.ret_then ?_ | refine N.ret_block ?_ | refine T.ret ?_ | refine T.skip ?_ | refine T.exit ?_ | refine T.block ?_ | (apply T.test; rfl; (exact isx); intro _; rotate_left; intro _; rotate_right) | (apply TL.val; rfl; rfl; (apply V.elem (j := j); (iterate 6 rfl); omega; exact hg1.at_ (by omega))) | (apply TL.val; rfl; rfl; (apply V.load_H_row; rfl; rfl; rfl; exact hrow; rfl)) | (apply TL.x; rfl; rfl; (apply X.alloc (d := 5); rfl; rfl; rfl); intro b5 _) | (apply TL.x; rfl; rfl; (apply X.storeTo 0 (enc x); (iterate 10 rfl)); intro _ _) | (apply TL.val; rfl; rfl; (apply V.load_H; rfl; rfl; rfl; exact hz1 0 _ rfl)) | (apply TL.callE (f := 75) [x.spans.v, intV t] Tryz.call75; (iterate 4 rfl); (exact fun _ hs => hu ▸ c_spanHas x.spans t hs.sat hxg.2.2.2)) | (apply TL.yield; (iterate 4 rfl); (exact fun w hs => hY w (hs.sub (List.sublist_cons_self _ _))); intro b g' hb) | (apply TL.val; rfl; rfl; (first | exact vpure | exact vread))))
      all_goals (try contradiction)
      all_goals (try (exfalso; omega))
      · rename_i hbf
        rw [hbf] at hb
        exact N.ret0 rfl fun w hs => ⟨_, g', rfl, .inr hb, hs⟩
      · rename_i hbt
        rw [hbt] at hb
        refine N.round (j + 1, g') ⟨by show j + 1 ≤ _; omega, by show Φ _ g'; rw [htk, List.length_append]; exact hb⟩ (by show all.len - (j + 1) < all.len - j; omega) (by (repeat (first | exact True.intro | refine ⟨rfl, ?_⟩ | refine Sub.int rfl (by omega) ?_))) rfl (by (first | exact List.Sublist.refl _ | exact List.nil_sublist _ | exact List.Sublist.cons _ (List.Sublist.refl _) | exact List.Sublist.cons _ (List.Sublist.cons _ (List.Sublist.refl _))))
    · rw [if_neg hu, List.append_nil] at htk
      have hu := Bool.eq_false_iff.2 hu
      obtain ⟨x, hx⟩ : ∃ x, all.els[j]'hjl = x := ⟨_, rfl⟩
      rw [hx] at hu hxg
      try rw [hx] at hrow
      repeat (any_goals (first | refine T.seq ?_ | refine T.region ?_ | refine TL.nil ?_ | refine N.next ?_ | refine N.inBlock ?_ | refine N.exit_same ?_ | refine N.exit_then ?_ | refine T.skip ?_ | refine T.exit ?_ | refine T.block ?_ | (apply T.cond_false; rfl) | (apply T.test; rfl; (exact isx); intro _; rotate_left; intro _; rotate_right) | (apply TL.skip; rfl; rfl; rfl) | (apply TL.val; rfl; rfl; (apply V.elem (j := j); (iterate 6 rfl); omega; exact hg1.at_ (by omega))) | (apply TL.val; rfl; rfl; (apply V.load_H_row; rfl; rfl; rfl; exact hrow; rfl)) | (apply TL.x; rfl; rfl; (apply X.alloc (d := 5); rfl; rfl; rfl); intro b5 _) | (apply TL.x; rfl; rfl; (apply X.storeTo 0 (enc x); (iterate 10 rfl)); intro _ _) | (apply TL.val; rfl; rfl; (apply V.load_H; rfl; rfl; rfl; exact hz1 0 _ rfl)) | (apply TL.callE (f := 75) [x.spans.v, intV t] Tryz.call75; (iterate 4 rfl); (exact fun _ hs => hu ▸ c_spanHas x.spans t hs.sat hxg.2.2.2)) | (apply TL.val; rfl; rfl; (first | exact vpure | exact vread))))
      all_goals (try contradiction)
      all_goals (try (exfalso; omega))
      refine N.round (j + 1, g) ⟨by show j + 1 ≤ _; omega, by show Φ _ g; rw [htk]; exact hΦ⟩ (by show all.len - (j + 1) < all.len - j; omega) (by (repeat (first | exact True.intro | refine ⟨rfl, ?_⟩ | refine Sub.int rfl (by omega) ?_))) rfl (List.sublist_cons_self _ _)
  · repeat (any_goals (first | refine T.seq ?_ | refine T.region ?_ | refine TL.nil ?_ | refine N.next ?_ | refine N.exit_same ?_ | refine N.exit_then ?_ | refine T.skip ?_ | refine T.exit ?_ | refine T.block ?_ | (apply T.test; rfl; (exact isx); intro _; rotate_left; intro _; rotate_right) | (apply TL.val; rfl; rfl; (first | exact vpure | exact vread)) | (apply TL.x; rfl; rfl; (first | exact xgrow | exact xput); intro _ _)))
    all_goals (try (exfalso; omega))
    refine N.end0 rfl fun w hs => ⟨_, g, rfl, .inl ?_, hs⟩
    have : all.els.take j = all.els := List.take_of_length_le (by omega)
    rw [this] at hΦ
    exact hΦ
end Go.Proofs.YtepljgpikfeklaaGreatDoor
