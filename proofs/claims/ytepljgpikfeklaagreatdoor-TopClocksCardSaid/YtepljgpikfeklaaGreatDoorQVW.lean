import Derived.Test.YtepljgpikfeklaaGreatDoorQVT
import Derived.Test.YtepljgpikfeklaaGreatDoorQNQ
import Derived.Test.YtepljgpikfeklaaGreatDoorQNA
namespace Go.Proofs.YtepljgpikfeklaaGreatDoor
set_option linter.unusedVariables false
set_option linter.unusedSimpArgs false
open Go Go.RowKit
open Enc (enc)
set_option maxRecDepth 20000
def copiesZ (h : HistV) (z : Bytes) : List CopyV := h.copies.els.filter fun c => decide (c.zone.apex = z)
theorem c_Published1 (c : CopyV) (z : Bytes) (bz : Nat) {H : Hp} {w : World} (hs : Sat H w) (hz : H.cells bz 0 [strV z]) : Calls Tryz.prog 128 #[.agg (enc c).toArray, .pointer (some ⟨bz, 0, none⟩)] w (Ret w (.bool (decide (c.zone.apex = z)))) := by
  refine T.enter (vs := [.agg (enc c).toArray, .pointer (some ⟨bz, 0, none⟩)]) (H := H) Tryz.func128 rfl rfl rfl hs ?_
  repeat (any_goals (first | refine T.seq ?_ | refine T.region ?_ | refine TL.nil ?_ | refine N.next ?_ | refine T.ret ?_ | (apply TL.val; rfl; rfl; (apply V.load_H; rfl; rfl; rfl; exact hz 0 _ rfl)) | (apply TL.val; rfl; rfl; (first | exact vpure | exact vread)) | (apply TL.x; rfl; rfl; (first | exact xgrow | exact xput); intro _ _)))
  exact N.ret_bool rfl (by (exact rvx)) rfl
theorem c_copies (h : HistV) (F : Value) (hF : F.cells = #[F]) (hF1 : F.oneCell' = true) {H : Hp} {w : World} (hs : Sat H w) : Calls Tryz.prog 127 #[.agg (enc h).toArray, F] w (RetF w H (fun g : Hp × Nat × Nat => H.le g.1 ∧ g.1.cells g.2.1 0 (enc h) ∧ g.1.cells g.2.2 0 [F]) (fun g => .func (.func 168) #[] #[.pointer (some ⟨g.2.1, 0, none⟩), .pointer (some ⟨g.2.2, 0, none⟩)]) (fun g => g.1)) := by
  refine T.enter (vs := [.agg (enc h).toArray, F]) (H := H) Tryz.func127 rfl rfl rfl hs ?_
  repeat (any_goals (first | refine T.seq ?_ | refine T.region ?_ | refine TL.nil ?_ | refine N.next ?_ | refine T.ret ?_ | (apply TL.x; rfl; rfl; (apply X.box (d := 2); rfl; rfl; rfl); intro b2 _; apply TL.frzZ 0; rfl; intro H1 z1 hle1) | (apply TL.x; rfl; rfl; (apply X.box (d := 3) (cs := [F]); rfl; rfl; exact hF); intro b3 _; apply TL.frzZ 0; rfl; intro H2 z2 hle2) | (apply TL.val; rfl; rfl; ((apply V.makeFunc (vs := []) (us := [.pointer (some ⟨b2, 0, none⟩), .pointer (some ⟨b3, 0, none⟩)]) <;> rfl))) | (apply TL.val; rfl; rfl; (first | exact vpure | exact vread))))
  exact N.ret1 rfl (by (exact rvx)) fun w1 hst => ⟨(H2, b2, b3), ⟨hle1.trans hle2, Hp.cells_le hle2 z1, z2⟩, rfl, hst.fresh⟩
set_option maxHeartbeats 2000000 in
theorem c_copies1 (h : HistV) (z : Bytes) (bh bf bz : Nat) {Hc : Hp} (hc : Hc.cells bh 0 (enc h)) (hf : Hc.cells bf 0 [.func (.func 128) #[] #[.pointer (some ⟨bz, 0, none⟩)]]) (hz : Hc.cells bz 0 [strV z]) (hg : h.copies.Good Hc) {G : Type} (Φ : Nat → G → Prop) (Φs : G → Prop) (HH : G → Hp) (LL : G → List Loc) {w0 : World} {H0 : Hp} {rl : Nat} (hle : ∀ k g, Φ k g → Hc.le (HH g))
    (hy : ∀ k g, Φ k g → ∀ (hk : k < (copiesZ h z).length) w, St w0 H0 (HH g) (LL g) w → YieldAt (FW none) 0 Tryz.prog rl #[.agg (enc (copiesZ h z)[k]).toArray] w (fun e w' => ∃ b g', e = .returned (.bool b) ∧ (if b = true then Φ (k + 1) g' else Φs g') ∧ St w0 H0 (HH g') (LL g') w'))
    (g0 : G) (h0 : Φ 0 g0) {w : World} (hs : St w0 H0 (HH g0) (LL g0) w) :
    CallsIn (FW none) 0 Tryz.prog 168 #[.func (.yield rl) #[] #[], .pointer (some ⟨bh, 0, none⟩), .pointer (some ⟨bf, 0, none⟩)] w (fun e w' => ∃ v g, e = .returned v ∧ (Φ (copiesZ h z).length g ∨ Φs g) ∧ St w0 H0 (HH g) (LL g) w') := by
  have hlen := hg.len
  have hlim := hg.lim
  have hle0 := hle 0 g0 h0
  have hc0 : (HH g0).cells bh 0 (enc h) := Hp.cells_le hle0 hc
  refine T.enterIn (vs := [.func (.yield rl) #[] #[], .pointer (some ⟨bh, 0, none⟩), .pointer (some ⟨bf, 0, none⟩)]) Tryz.func168 rfl rfl rfl hs ?_
  repeat (any_goals (first | refine T.seq ?_ | refine T.region ?_ | refine TL.nil ?_ | refine N.next ?_ | refine T.block ?_ | (apply TL.val; rfl; rfl; (apply V.load_H; rfl; rfl; rfl; first | exact hc0 0 _ rfl | exact hc0 1 _ rfl | exact hc0 2 _ rfl | exact hc0 3 _ rfl | exact hc0 4 _ rfl | exact hc0 5 _ rfl | exact hc0 6 _ rfl | exact hc0 7 _ rfl | exact hc0 8 _ rfl)) | (apply TL.val; rfl; rfl; (first | exact vpure | exact vread))))
  refine T.loop (G := Nat × G) (fun p => [(0, .func (.yield rl) #[] #[]), (1, .pointer (some ⟨bh, 0, none⟩)), (2, .pointer (some ⟨bf, 0, none⟩)), (7, h.copies.v), (8, intV h.copies.len), (9, intV p.1)]) (fun p => HH p.2) (fun p => LL p.2) (fun p => p.1 ≤ h.copies.len ∧ Φ ((h.copies.els.take p.1).filter fun c => decide (c.zone.apex = z)).length p.2) (fun p => h.copies.len - p.1) (0, g0) ⟨Nat.zero_le _, h0⟩ (by (repeat (first | exact True.intro | refine ⟨rfl, ?_⟩ | refine Sub.int rfl (by omega) ?_))) rfl (by (first | exact List.Sublist.refl _ | exact List.nil_sublist _ | exact List.Sublist.cons _ (List.Sublist.refl _) | exact List.Sublist.cons _ (List.Sublist.cons _ (List.Sublist.refl _)))) ?_
  rintro ⟨j, g⟩ ⟨hj, hΦ⟩
  simp only at hj hΦ ⊢
  have hleg := hle _ g hΦ
  have hf1 := Hp.cells_le hleg hf
  have hz1 := Hp.cells_le hleg hz
  have hg1 : h.copies.Good (HH g) := hg.mono hleg
  by_cases hlt : j < h.copies.len
  · have hjl : j < h.copies.els.length := by omega
    have hrow := hg1.row (k := j) hlt
    have htk : (h.copies.els.take (j + 1)).filter (fun c => decide (c.zone.apex = z)) = (h.copies.els.take j).filter (fun c => decide (c.zone.apex = z)) ++ if decide (h.copies.els[j].zone.apex = z) = true then [h.copies.els[j]] else [] := filter_take _ hjl
    by_cases hu : h.copies.els[j].zone.apex = z
    · obtain ⟨hk, hk2⟩ := filter_at (p := fun c : CopyV => decide (c.zone.apex = z)) hjl (decide_eq_true hu)
      rw [if_pos (decide_eq_true hu)] at htk
      have hY := hy _ g hΦ hk
      have hk3 : (copiesZ h z)[((h.copies.els.take j).filter fun c => decide (c.zone.apex = z)).length]'hk = h.copies.els[j] := hk2
      rw [hk3] at hY
      have hd : decide (h.copies.els[j].zone.apex = z) = true := decide_eq_true hu
      obtain ⟨x, hx⟩ : ∃ x, h.copies.els[j]'hjl = x := ⟨_, rfl⟩
      rw [hx] at hY hd htk
      try rw [hx] at hrow
      repeat (any_goals (first | refine T.seq ?_ | refine T.region ?_ | refine TL.nil ?_ | refine N.next ?_ | refine N.inBlock ?_ | refine N.exit_same ?_ | refine N.exit_then ?_ | refine N.ret_then ?_ | refine N.ret_block ?_ | refine T.ret ?_ | refine T.skip ?_ | refine T.exit ?_ | refine T.block ?_ | (apply T.test; rfl; (exact isx); intro _; rotate_left; intro _; rotate_right) | (apply TL.val; rfl; rfl; (apply V.elem (j := j); (iterate 6 rfl); omega; exact hg1.at_ (by omega))) | (apply TL.val; rfl; rfl; (apply V.load_H_row; rfl; rfl; rfl; exact hrow; rfl)) | (apply TL.x; rfl; rfl; (apply X.alloc (d := 5); rfl; rfl; rfl); intro b5 _) | (apply TL.x; rfl; rfl; (apply X.storeTo 0 (enc x); (iterate 10 rfl)); intro _ _) | (apply TL.val; rfl; rfl; (apply V.load_H; rfl; rfl; rfl; exact hf1 0 _ rfl)) | (apply TL.call; (iterate 4 rfl); exact Tryz.call128; exact fun _ hs => hd ▸ c_Published1 x z bz hs.sat hz1) | (apply TL.yield; (iterate 4 rfl); (exact fun w hs => hY w (hs.sub (List.sublist_cons_self _ _))); intro b g' hb) | (apply TL.val; rfl; rfl; (first | exact vpure | exact vread))))
      all_goals (try contradiction)
      all_goals (try (exfalso; omega))
      · rename_i hbf
        rw [hbf] at hb
        exact N.ret0 rfl fun w hs => ⟨_, g', rfl, .inr hb, hs⟩
      · rename_i hbt
        rw [hbt] at hb
        refine N.round (j + 1, g') ⟨by show j + 1 ≤ _; omega, by show Φ _ g'; rw [htk, List.length_append]; exact hb⟩ (by show h.copies.len - (j + 1) < h.copies.len - j; omega) (by (repeat (first | exact True.intro | refine ⟨rfl, ?_⟩ | refine Sub.int rfl (by omega) ?_))) rfl (by (first | exact List.Sublist.refl _ | exact List.nil_sublist _ | exact List.Sublist.cons _ (List.Sublist.refl _) | exact List.Sublist.cons _ (List.Sublist.cons _ (List.Sublist.refl _))))
    · rw [if_neg (by simpa using hu), List.append_nil] at htk
      have hd : decide (h.copies.els[j].zone.apex = z) = false := decide_eq_false hu
      obtain ⟨x, hx⟩ : ∃ x, h.copies.els[j]'hjl = x := ⟨_, rfl⟩
      rw [hx] at hd
      try rw [hx] at hrow
      repeat (any_goals (first | refine T.seq ?_ | refine T.region ?_ | refine TL.nil ?_ | refine N.next ?_ | refine N.inBlock ?_ | refine N.exit_same ?_ | refine N.exit_then ?_ | refine T.skip ?_ | refine T.exit ?_ | refine T.block ?_ | (apply T.cond_false; rfl) | (apply T.test; rfl; (exact isx); intro _; rotate_left; intro _; rotate_right) | (apply TL.skip; rfl; rfl; rfl) | (apply TL.val; rfl; rfl; (apply V.elem (j := j); (iterate 6 rfl); omega; exact hg1.at_ (by omega))) | (apply TL.val; rfl; rfl; (apply V.load_H_row; rfl; rfl; rfl; exact hrow; rfl)) | (apply TL.x; rfl; rfl; (apply X.alloc (d := 5); rfl; rfl; rfl); intro b5 _) | (apply TL.x; rfl; rfl; (apply X.storeTo 0 (enc x); (iterate 10 rfl)); intro _ _) | (apply TL.val; rfl; rfl; (apply V.load_H; rfl; rfl; rfl; exact hf1 0 _ rfl)) | (apply TL.call; (iterate 4 rfl); exact Tryz.call128; exact fun _ hs => hd ▸ c_Published1 x z bz hs.sat hz1) | (apply TL.val; rfl; rfl; (first | exact vpure | exact vread))))
      all_goals (try contradiction)
      all_goals (try (exfalso; omega))
      refine N.round (j + 1, g) ⟨by show j + 1 ≤ _; omega, by show Φ _ g; rw [htk]; exact hΦ⟩ (by show h.copies.len - (j + 1) < h.copies.len - j; omega) (by (repeat (first | exact True.intro | refine ⟨rfl, ?_⟩ | refine Sub.int rfl (by omega) ?_))) rfl (List.sublist_cons_self _ _)
  · repeat (any_goals (first | refine T.seq ?_ | refine T.region ?_ | refine TL.nil ?_ | refine N.next ?_ | refine N.exit_same ?_ | refine N.exit_then ?_ | refine T.skip ?_ | refine T.exit ?_ | refine T.block ?_ | (apply T.test; rfl; (exact isx); intro _; rotate_left; intro _; rotate_right) | (apply TL.val; rfl; rfl; (first | exact vpure | exact vread)) | (apply TL.x; rfl; rfl; (first | exact xgrow | exact xput); intro _ _)))
    all_goals (try (exfalso; omega))
    refine N.end0 rfl fun w hs => ⟨_, g, rfl, .inl ?_, hs⟩
    have : h.copies.els.take j = h.copies.els := List.take_of_length_le (by omega)
    rw [this] at hΦ
    exact hΦ
theorem c_hclone (e : Signed) {H : Hp} {w : World} (hs : Sat H w) (hg : Enc.good H e) (h1 : e.set.data.len ≤ 1000) (h2 : e.sigs.len ≤ 1000) : Calls Tryz.prog 130 #[.agg (enc e).toArray] w (RetF w H (fun p : Hp × Signed => p.2.c = e.c ∧ Enc.good p.1 p.2) (fun p => .agg (enc p.2).toArray) (fun p => p.1)) := by
  refine T.enter (vs := [.agg (enc e).toArray]) (H := H) Tryz.func130 rfl rfl rfl hs ?_
  repeat (any_goals (first | refine T.seq ?_ | refine T.region ?_ | refine TL.nil ?_ | refine N.next ?_ | refine T.ret ?_ | (apply TL.x; rfl; rfl; (apply X.callFE (f := 108) [e.set.data.v] Tryz.call108; rfl; rfl; rfl; exact (fun _ hs => c_CloneDatum e.set.data _ _ hs.sat hg.1.2.2.2 h1)); intro p1 hp1; have hg2 := Enc.mono hp1.2 hg) | (apply TL.x; rfl; rfl; (apply X.callFE (f := 109) [e.sigs.v] Tryz.call109; rfl; rfl; rfl; exact (fun _ hs => c_CloneSig e.sigs _ _ hs.sat hg2.2 h2)); intro p2 hp2) | (apply TL.x; rfl; rfl; (apply X.storeTo 1 (enc (⟨⟨e.set.name, e.set.typ, e.set.life, p1.2⟩, e.sigs⟩ : Signed)); (iterate 10 rfl)); intro _ _) | (apply TL.x; rfl; rfl; (apply X.storeTo 1 (enc (⟨⟨e.set.name, e.set.typ, e.set.life, p1.2⟩, p2.2⟩ : Signed)); (iterate 10 rfl)); intro _ _) | (apply TL.x; rfl; rfl; (apply X.storeTo 0 (enc (⟨⟨e.set.name, e.set.typ, e.set.life, p1.2⟩, p2.2⟩ : Signed)); (iterate 10 rfl)); intro _ _) | (apply TL.val; rfl; rfl; (first | exact vpure | exact vread)) | (apply TL.x; rfl; rfl; (first | exact xgrow | exact xput); intro _ _)))
  apply N.ret1; rfl; (exact rvx)
  intro w1 hst
  obtain ⟨⟨a1, a2⟩, a3⟩ := hp1
  obtain ⟨⟨b1, b2⟩, b3⟩ := hp2
  refine ⟨(p2.1, ⟨⟨e.set.name, e.set.typ, e.set.life, p1.2⟩, p2.2⟩), ⟨?_, ?_⟩, rfl, hst.fresh⟩
  · unfold Signed.c RSet.c
    simp only [a1, b1]
  · exact ⟨⟨hg.1.1, hg.1.2.1, hg.1.2.2.1, a2.mono b3⟩, b2⟩
end Go.Proofs.YtepljgpikfeklaaGreatDoor
namespace Go.Proofs.YtepljgpikfeklaaGreatDoor
set_option linter.unusedVariables false
set_option linter.unusedSimpArgs false
open Go Go.RowKit
set_option maxRecDepth 20000
structure ValidS (s : SignedC) : Prop where
  set : setOK s.set = true
  sigs : s.sigs.length ≤ 6
  zone : ∀ g ∈ s.sigs, nameOK g.zone = true
  sum : ∀ g ∈ s.sigs, 0 ≤ g.sum
theorem name_le60 {l : Bytes} (h : nameOK l = true) : l.length ≤ 60 := name_len60 h
theorem datumBy_text {r : Rule} {d : Datum} (h : datumBy r d = true) : nameOK d.text = true ∨ textOK d.text = true ∨ d.text = [] := by
  unfold datumBy at h
  simp only [Bool.and_eq_true] at h
  have h3 := h.2
  by_cases h1 : r.text = 1
  · rw [if_pos h1, Bool.and_eq_true] at h3; exact .inl h3.1
  · rw [if_neg h1] at h3
    by_cases h2 : r.text = 2
    · rw [if_pos h2] at h3; exact .inl h3
    · rw [if_neg h2] at h3
      by_cases h4 : r.text = 3
      · rw [if_pos h4] at h3; exact .inr (.inl h3)
      · rw [if_neg h4] at h3; exact .inr (.inr (of_decide_eq_true h3))
theorem setOK_texts {s : SetC} (h : setOK s = true) : nameOK s.name = true ∧ s.data.length ≤ 8 ∧ ∀ d ∈ s.data, nameOK d.text = true ∨ textOK d.text = true ∨ d.text = [] := by
  unfold setOK at h
  simp only [Bool.and_eq_true, List.all_eq_true, decide_eq_true_eq] at h
  obtain ⟨⟨⟨⟨⟨⟨⟨h1, _⟩, _⟩, _, h8⟩, _⟩, _⟩, h2⟩, _⟩ := h
  refine ⟨h1, h8, fun d hd => ?_⟩
  have := h2 d hd
  unfold datumOK at this
  rw [Bool.and_eq_true] at this
  exact datumBy_text this.2
theorem ValidS.textIn {s : SignedC} (h : ValidS s) : TextIn s := by
  obtain ⟨h1, h2, h3⟩ := setOK_texts h.set
  refine ⟨Nat.le_trans (name_le60 h1) (by decide), by omega, fun d hd => ?_, by have := h.sigs; omega, fun g hg => Nat.le_trans (name_le60 (h.zone g hg)) (by decide)⟩
  rcases h3 d hd with h4 | h4 | h4
  · exact Nat.le_trans (name_le60 h4) (by decide)
  · have h5 : Word 32 40 d.text := of_decide_eq_true h4
    have := h5.2.1
    omega
  · rw [h4]; exact Nat.zero_le _
def NoSl (z : Bytes) : Prop := (47 : UInt8) ∉ z
theorem word_noSl {c m : Nat} {l : Bytes} (hc : c ≠ 47) (h : isWord c m l = true) : NoSl l := fun hm => by
  have hw : Word c m l := of_decide_eq_true h
  obtain ⟨k, hk, he⟩ := List.mem_iff_getElem.1 hm
  have := hw.2.2 k hk
  unfold WordAt at this
  rw [List.getD_eq_getElem?_getD, List.getElem?_eq_getElem hk, Option.getD_some, he] at this
  have h47 : (47 : UInt8).toNat = 47 := rfl
  rw [h47] at this
  omega
theorem split_mem {c : UInt8} (hc : c ≠ 46) : ∀ {l : Bytes}, c ∈ l → ∃ p ∈ splitDots l, c ∈ p
  | [], h => by cases h
  | x :: t, h => by
    unfold splitDots
    by_cases hx : x = 46
    · rw [if_pos hx]
      rcases List.mem_cons.1 h with rfl | h
      · exact absurd hx hc
      · obtain ⟨p, hp, hcp⟩ := split_mem hc h
        exact ⟨p, List.mem_cons_of_mem _ hp, hcp⟩
    · rw [if_neg hx]
      cases hs : splitDots t with
      | nil => exact absurd hs (splitDots_ne t)
      | cons p r =>
        simp only
        rcases List.mem_cons.1 h with rfl | h
        · exact ⟨_, List.mem_cons_self .., List.mem_cons_self ..⟩
        · obtain ⟨q, hq, hcq⟩ := split_mem hc h
          rw [hs] at hq
          rcases List.mem_cons.1 hq with rfl | hq
          · exact ⟨_, List.mem_cons_self .., List.mem_cons_of_mem _ hcq⟩
          · exact ⟨q, List.mem_cons_of_mem _ hq, hcq⟩
theorem name_noSl {l : Bytes} (h : nameOK l = true) : NoSl l := fun hm => by
  rcases (nameOK_iff l).1 h with rfl | ⟨_, _, h2⟩
  · revert hm; decide
  · obtain ⟨p, hp, hc⟩ := split_mem (by decide) hm
    obtain ⟨j, hj, rfl⟩ := List.mem_iff_getElem.1 (List.mem_reverse.2 hp)
    rcases h2 j hj with h3 | ⟨_, h3⟩
    · exact word_noSl (by decide) h3 hc
    · rw [h3] at hc; revert hc; decide
theorem digit_toNat {d : Nat} (h : d < 10) : (UInt8.ofNat (48 + d)).toNat = 48 + d := by
  rw [UInt8.toNat_ofNat']
  omega
theorem dec_chars : ∀ (u : Nat), ∀ c ∈ Lib.decDigits u, 48 ≤ c.toNat ∧ c.toNat ≤ 57 := by
  intro u
  induction u using Nat.strongRecOn with
  | _ u ih =>
    intro c hc
    rw [Lib.decDigits] at hc
    split at hc
    · rw [List.mem_singleton.1 hc, digit_toNat (by omega)]; omega
    · rcases List.mem_append.1 hc with hc | hc
      · exact ih (u / 10) (by omega) c hc
      · rw [List.mem_singleton.1 hc, digit_toNat (by omega)]; omega
theorem dec_noSl (u : Nat) : NoSl (Lib.decDigits u) := fun hm => by
  have := dec_chars u 47 hm
  have h47 : (47 : UInt8).toNat = 47 := rfl
  omega
theorem itoa_noSl (n : Int) : NoSl (Lib.itoa n) := by
  unfold Lib.itoa
  split
  · intro hm
    rcases List.mem_cons.1 hm with h | h
    · revert h; decide
    · exact dec_noSl _ h
  · exact dec_noSl _
def valD (l : Bytes) : Nat := l.foldl (fun a c => a * 10 + (c.toNat - 48)) 0
theorem valD_dec : ∀ (u : Nat), valD (Lib.decDigits u) = u := by
  intro u
  induction u using Nat.strongRecOn with
  | _ u ih =>
    rw [Lib.decDigits]
    split
    · unfold valD
      simp only [List.foldl_cons, List.foldl_nil, digit_toNat (show u < 10 by assumption)]
      omega
    · have := ih (u / 10) (by omega)
      unfold valD at this ⊢
      rw [List.foldl_append, this]
      simp only [List.foldl_cons, List.foldl_nil, digit_toNat (show u % 10 < 10 by omega)]
      omega
theorem dec_inj {a b : Nat} (h : Lib.decDigits a = Lib.decDigits b) : a = b := by rw [← valD_dec a, ← valD_dec b, h]
theorem dec_head {u : Nat} {t : Bytes} : Lib.decDigits u ≠ 45 :: t := fun h => by
  have := dec_chars u 45 (by rw [h]; exact List.mem_cons_self ..)
  have h45 : (45 : UInt8).toNat = 45 := rfl
  omega
theorem itoa_inj {a b : Int} (h : Lib.itoa a = Lib.itoa b) : a = b := by
  unfold Lib.itoa at h
  by_cases ha : a < 0
  · rw [if_pos ha] at h
    by_cases hb : b < 0
    · rw [if_pos hb] at h
      have := dec_inj (List.cons.inj h).2
      omega
    · rw [if_neg hb] at h; exact absurd h.symm dec_head
  · rw [if_neg ha] at h
    by_cases hb : b < 0
    · rw [if_pos hb] at h; exact absurd h dec_head
    · rw [if_neg hb] at h
      have := dec_inj h
      omega
theorem fld_split : ∀ {z z' A A' : Bytes}, NoSl z → NoSl z' → z ++ 47 :: A = z' ++ 47 :: A' → z = z' ∧ A = A'
  | [], [], _, _, _, _, h => ⟨rfl, (List.cons.inj h).2⟩
  | [], c :: t, _, _, _, h2, h => absurd (by have := (List.cons.inj h).1; rw [← this]; exact List.mem_cons_self ..) h2
  | c :: t, [], _, _, h1, _, h => absurd (by have := (List.cons.inj h).1; rw [this]; exact List.mem_cons_self ..) h1
  | c :: t, c' :: t', _, _, h1, h2, h => by
    obtain ⟨e1, e2⟩ := List.cons.inj h
    obtain ⟨e3, e4⟩ := fld_split (fun hm => h1 (List.mem_cons_of_mem _ hm)) (fun hm => h2 (List.mem_cons_of_mem _ hm)) e2
    exact ⟨by rw [e1, e3], e4⟩
theorem flds_inj : ∀ {l l' : List Bytes}, (∀ z ∈ l, NoSl z) → (∀ z ∈ l', NoSl z) → l.flatMap fldB = l'.flatMap fldB → l = l'
  | [], [], _, _, _ => rfl
  | [], z :: t, _, _, h => by simp [fldB] at h
  | z :: t, [], _, _, h => by simp [fldB] at h
  | z :: t, z' :: t', h1, h2, h => by
    rw [List.flatMap_cons, List.flatMap_cons] at h
    unfold fldB at h
    rw [List.append_assoc, List.append_assoc] at h
    obtain ⟨e1, e2⟩ := fld_split (h1 z (List.mem_cons_self ..)) (h2 z' (List.mem_cons_self ..)) h
    rw [e1, flds_inj (fun y hy => h1 y (List.mem_cons_of_mem _ hy)) (fun y hy => h2 y (List.mem_cons_of_mem _ hy)) e2]
def datumF (d : Datum) : List Bytes := [d.text, Lib.itoa d.n, Lib.itoa d.m]
def sigF (g : Sig) : List Bytes := [g.zone, Lib.itoa g.key, Lib.itoa g.alg, Lib.itoa g.frm, Lib.itoa g.til, Lib.decDigits g.sum.toNat]
def fieldsT (s : SignedC) : List Bytes := [s.set.name, Lib.itoa s.set.typ, Lib.itoa s.set.life, Lib.itoa s.set.data.length] ++ (s.set.data.flatMap datumF ++ s.sigs.flatMap sigF)
theorem textC_fields (s : SignedC) : textC s = (fieldsT s).flatMap fldB := by
  have h1 : ∀ l : List Datum, (l.flatMap datumF).flatMap fldB = l.flatMap datumT := fun l => by
    induction l with
    | nil => rfl
    | cons d t ih => rw [List.flatMap_cons, List.flatMap_append, ih, List.flatMap_cons]; congr 1; simp [datumF, datumT, numF]
  have h2 : ∀ l : List Sig, (l.flatMap sigF).flatMap fldB = l.flatMap sigT := fun l => by
    induction l with
    | nil => rfl
    | cons d t ih => rw [List.flatMap_cons, List.flatMap_append, ih, List.flatMap_cons]; congr 1; simp [sigF, sigT, numF]
  unfold fieldsT textC headT
  rw [List.flatMap_append, List.flatMap_append, h1, h2]
  simp [numF]
theorem fields_noSl {s : SignedC} (h : ValidS s) : ∀ z ∈ fieldsT s, NoSl z := fun z hz => by
  obtain ⟨h1, _, h3⟩ := setOK_texts h.set
  unfold fieldsT at hz
  rcases List.mem_append.1 hz with hz | hz
  · rcases List.mem_cons.1 hz with rfl | hz
    · exact name_noSl h1
    · rcases List.mem_cons.1 hz with rfl | hz
      · exact itoa_noSl _
      · rcases List.mem_cons.1 hz with rfl | hz
        · exact itoa_noSl _
        · rw [List.mem_singleton.1 hz]; exact itoa_noSl _
  · rcases List.mem_append.1 hz with hz | hz
    · obtain ⟨d, hd, hz⟩ := List.mem_flatMap.1 hz
      rcases List.mem_cons.1 hz with rfl | hz
      · rcases h3 d hd with h4 | h4 | h4
        · exact name_noSl h4
        · exact word_noSl (by decide) h4
        · rw [h4]; exact fun h => by cases h
      · rcases List.mem_cons.1 hz with rfl | hz
        · exact itoa_noSl _
        · rw [List.mem_singleton.1 hz]; exact itoa_noSl _
    · obtain ⟨g, hg, hz⟩ := List.mem_flatMap.1 hz
      unfold sigF at hz
      simp only [List.mem_cons, List.not_mem_nil, or_false] at hz
      rcases hz with rfl | rfl | rfl | rfl | rfl | rfl
      · exact name_noSl (h.zone g hg)
      · exact itoa_noSl _
      · exact itoa_noSl _
      · exact itoa_noSl _
      · exact itoa_noSl _
      · exact dec_noSl _
theorem datumF_inj : ∀ {l l' : List Datum}, l.length = l'.length → l.flatMap datumF = l'.flatMap datumF → l = l'
  | [], [], _, _ => rfl
  | [], _ :: _, h, _ => by simp at h
  | _ :: _, [], h, _ => by simp at h
  | d :: t, d' :: t', h, e => by
    simp only [List.flatMap_cons, datumF, List.cons_append, List.nil_append, List.cons.injEq] at e
    obtain ⟨e1, e2, e3, e4⟩ := e
    have := datumF_inj (l := t) (l' := t') (by simpa using h) e4
    obtain ⟨a, b, c⟩ := d
    obtain ⟨a', b', c'⟩ := d'
    simp only at e1 e2 e3
    rw [e1, itoa_inj e2, itoa_inj e3, this]
theorem sigF_inj : ∀ {l l' : List Sig}, (∀ g ∈ l, 0 ≤ g.sum) → (∀ g ∈ l', 0 ≤ g.sum) → l.flatMap sigF = l'.flatMap sigF → l = l'
  | [], [], _, _, _ => rfl
  | [], g :: t, _, _, h => by simp [sigF] at h
  | g :: t, [], _, _, h => by simp [sigF] at h
  | d :: t, d' :: t', h1, h2, e => by
    simp only [List.flatMap_cons, sigF, List.cons_append, List.nil_append, List.cons.injEq] at e
    obtain ⟨e1, e2, e3, e4, e5, e6, e7⟩ := e
    have := sigF_inj (l := t) (l' := t') (fun g hg => h1 g (List.mem_cons_of_mem _ hg)) (fun g hg => h2 g (List.mem_cons_of_mem _ hg)) e7
    have s1 := h1 d (List.mem_cons_self ..)
    have s2 := h2 d' (List.mem_cons_self ..)
    obtain ⟨a, b, c, p, q, r⟩ := d
    obtain ⟨a', b', c', p', q', r'⟩ := d'
    simp only at e1 e2 e3 e4 e5 e6 s1 s2
    have hr : r = r' := by have := dec_inj e6; omega
    rw [e1, itoa_inj e2, itoa_inj e3, itoa_inj e4, itoa_inj e5, hr, this]
theorem datumF_len (l : List Datum) : (l.flatMap datumF).length = 3 * l.length := by
  induction l with
  | nil => rfl
  | cons d t ih => rw [List.flatMap_cons, List.length_append, ih, List.length_cons]; show 3 + _ = _; omega
theorem text_inj {s s' : SignedC} (h : ValidS s) (h' : ValidS s') (e : textC s = textC s') : s = s' := by
  rw [textC_fields, textC_fields] at e
  have e := flds_inj (fields_noSl h) (fields_noSl h') e
  unfold fieldsT at e
  simp only [List.cons_append, List.nil_append, List.cons.injEq] at e
  obtain ⟨e1, e2, e3, e4, e5⟩ := e
  have e4 : s.set.data.length = s'.set.data.length := by have := itoa_inj e4; omega
  obtain ⟨e6, e7⟩ := List.append_inj e5 (by rw [datumF_len, datumF_len, e4])
  have e6 := datumF_inj e4 e6
  have e7 := sigF_inj h.sum h'.sum e7
  obtain ⟨⟨a, b, c, d⟩, g⟩ := s
  obtain ⟨⟨a', b', c', d'⟩, g'⟩ := s'
  simp only at e1 e2 e3 e6 e7
  rw [e1, itoa_inj e2, itoa_inj e3, e6, e7]
theorem sigForm_name {apex : Bytes} {l : List Sig} (ha : nameOK apex = true) (h : sigsForm l apex = true) : l.length ≤ 6 ∧ ∀ g ∈ l, nameOK g.zone = true := by
  unfold sigsForm at h
  simp only [Bool.and_eq_true, decide_eq_true_eq, List.all_eq_true] at h
  refine ⟨h.1.1, fun g hg => ?_⟩
  have := h.1.2 g hg
  unfold sigForm at this
  simp only [Bool.and_eq_true, decide_eq_true_eq] at this
  rw [this.1.1.1.1.1]
  exact ha
theorem zoned_valid {z : ZoneV} (hz : ZonedR z.c) {H : Hp} (hg : Enc.good H z) {s : Signed} (hs : s ∈ z.sets.els) : ValidS s.c := by
  have hm : s.c ∈ z.c.sets := List.mem_map.2 ⟨s, hs, rfl⟩
  obtain ⟨i, hi, he⟩ := List.mem_iff_getElem.1 hm
  have h1 := (hz.one.each i hi).1
  have h2 := (hz.five i hi).1
  rw [he] at h1 h2
  obtain ⟨h3, h4⟩ := sigForm_name hz.one.apexOK h2
  exact ⟨h1, h3, h4, fun g hgs => ((hg.2.els s hs).2.els g hgs).2.2.2.2.2.1⟩
end Go.Proofs.YtepljgpikfeklaaGreatDoor
namespace Go.Proofs.YtepljgpikfeklaaGreatDoor
set_option linter.unusedVariables false
set_option linter.unusedSimpArgs false
open Go Go.RowKit
open Enc (enc)
set_option maxRecDepth 20000
structure HeldV where
  zone : List UInt8
  signed : Signed
  fresh : Slc SpanV
  spans : Slc SpanV
instance : Enc HeldV where
  size := 8
  enc x := [strV x.zone, strV x.signed.set.name, intV x.signed.set.typ, intV x.signed.set.life, .slice x.signed.set.data.A x.signed.set.data.len x.signed.set.data.cap, .slice x.signed.sigs.A x.signed.sigs.len x.signed.sigs.cap, .slice x.fresh.A x.fresh.len x.fresh.cap, .slice x.spans.A x.spans.len x.spans.cap]
  good H x := LenOk x.zone ∧ Enc.good H x.signed ∧ x.fresh.Good H ∧ x.spans.Good H
  len _ := rfl
  mono hle h := ⟨h.1, Enc.mono hle h.2.1, h.2.2.1.mono hle, h.2.2.2.mono hle⟩
  one _ := rfl
  pos := by decide
def mkF (b c : Nat) (els : List SpanV) : Slc SpanV := ⟨some ⟨b, 0, none⟩, els.length, c, els⟩
def fRow (x : HeldV) : Loc := .row x.fresh.v 134 2 x.fresh.els.length (encs x.fresh.els)
def fRows (l : List HeldV) : List Loc := l.map fRow
theorem fRows_snoc (l : List HeldV) (x : HeldV) : fRows (l ++ [x]) = fRows l ++ [fRow x] := by unfold fRows; rw [List.map_append]; rfl
theorem fRows_len (l : List HeldV) : (fRows l).length = l.length := by unfold fRows; rw [List.length_map]
theorem fRows_at {l : List HeldV} {j : Nat} {x : HeldV} (h : l[j]? = some x) : (fRows l)[j]? = some (fRow x) := by unfold fRows; rw [List.getElem?_map, h]; rfl
theorem fRows_set (l : List HeldV) (j : Nat) (x : HeldV) : fRows (l.set j x) = (fRows l).set j (fRow x) := by unfold fRows; rw [List.map_set]
def tMap (ts : List Bytes) : List (Bytes × Value) := ts.zipIdx.map fun p => (p.1, intV p.2)
def textsH (l : List HeldV) : List Bytes := l.map fun x => textC x.signed.c
theorem tMap_snoc (ts : List Bytes) (t : Bytes) : tMap (ts ++ [t]) = tMap ts ++ [(t, intV ts.length)] := by
  unfold tMap
  rw [List.zipIdx_append, List.map_append]
  simp
theorem tMap_at (ts : List Bytes) (i : Nat) : (tMap ts)[i]? = (ts[i]?).map fun t => (t, intV i) := by
  unfold tMap
  rw [List.getElem?_map, List.getElem?_zipIdx]
  cases ts[i]? <;> simp
theorem tFind (t : Bytes) (ts : List Bytes) : (aFind t (tMap ts) 0 = none ∧ t ∉ ts) ∨ ∃ i : Nat, aFind t (tMap ts) 0 = some (i, intV i) ∧ ts[i]? = some t := by
  cases h : aFind t (tMap ts) 0 with
  | none =>
    refine .inl ⟨rfl, fun hm => ?_⟩
    obtain ⟨i, hi, rfl⟩ := List.mem_iff_getElem.1 hm
    rw [aFind_none] at h
    refine h (ts[i], intV i) (List.mem_of_getElem? (i := i) ?_) rfl
    rw [tMap_at, List.getElem?_eq_getElem hi]; rfl
  | some p =>
    obtain ⟨i, v⟩ := p
    have h2 := (aFind_some h).2
    rw [Nat.sub_zero, tMap_at] at h2
    cases hg : ts[i]? with
    | none => rw [hg] at h2; cases h2
    | some u =>
      rw [hg] at h2
      simp only [Option.map_some, Option.some.injEq, Prod.mk.injEq] at h2
      obtain ⟨rfl, rfl⟩ := h2
      exact .inr ⟨i, rfl, hg⟩
theorem tGet_none {t : Bytes} {ts : List Bytes} (h : aFind t (tMap ts) 0 = none) (v : Value) : aGet t (tMap ts) = none ∧ aPut t v (tMap ts) = tMap ts ++ [(t, v)] := by
  unfold aGet aPut
  rw [h]
  exact ⟨rfl, rfl⟩
theorem tGet_some {t : Bytes} {ts : List Bytes} {i : Nat} (h : aFind t (tMap ts) 0 = some (i, intV i)) : aGet t (tMap ts) = some (intV i) := by
  unfold aGet
  rw [h]; rfl
structure PubEach (h : HistV) (z : Bytes) (n : Nat) (H : Hp) (x : HeldV) : Prop where
  zone : x.zone = z
  src : ∃ c ∈ copiesZ h z, ∃ s ∈ c.zone.sets.els, x.signed.c = s.c
  times : ∀ f ∈ x.fresh.els, ∃ c ∈ copiesZ h z, f = ⟨c.frm, c.til⟩
  flen : x.fresh.els.length ≤ n
  shape : ∃ b c, x.fresh = mkF b c x.fresh.els
  spans : x.spans = Slc.nil _
  good : Enc.good H x.signed
theorem PubEach.mono {h : HistV} {z : Bytes} {n n' : Nat} {H H' : Hp} {x : HeldV} (e : PubEach h z n H x) (hn : n ≤ n') (hle : H.le H') : PubEach h z n' H' x :=
  ⟨e.zone, e.src, e.times, Nat.le_trans e.flen hn, e.shape, e.spans, Enc.mono hle e.good⟩
structure PubTo (h : HistV) (z : Bytes) (k j : Nat) (H : Hp) (l : List HeldV) : Prop where
  cover : ∀ i (hi : i < (copiesZ h z).length) q (hq : q < (copiesZ h z)[i].zone.sets.els.length), (i < k ∨ (i = k ∧ q < j)) → ∃ x ∈ l, textC x.signed.c = textC ((copiesZ h z)[i].zone.sets.els[q]).c ∧ (⟨(copiesZ h z)[i].frm, (copiesZ h z)[i].til⟩ : SpanV) ∈ x.fresh.els
  each : ∀ x ∈ l, PubEach h z (100 * k + j) H x
  len : l.length ≤ 100 * k + j
section
variable {h : HistV} {z : Bytes} {k j : Nat} {H H' : Hp} {l : List HeldV}
theorem PubTo.start : PubTo h z 0 0 H [] := ⟨fun i hi q hq hc => (by omega), fun x hx => (by cases hx), Nat.zero_le _⟩
theorem PubTo.old (e : PubTo h z k j H l) (hle : H.le H') (hk : k < (copiesZ h z).length) (hj : j < (copiesZ h z)[k].zone.sets.els.length) {i : Nat} {x : HeldV} (hi : l[i]? = some x) (ht : textC x.signed.c = textC ((copiesZ h z)[k].zone.sets.els[j]).c) (b c : Nat) :
    PubTo h z k (j + 1) H' (l.set i ⟨x.zone, x.signed, mkF b c (x.fresh.els ++ [⟨(copiesZ h z)[k].frm, (copiesZ h z)[k].til⟩]), x.spans⟩) := by
  have hxm := List.mem_of_getElem? hi
  have hil := (List.getElem?_eq_some_iff.1 hi).1
  have hx := e.each x hxm
  have hnew : (⟨x.zone, x.signed, mkF b c (x.fresh.els ++ [⟨(copiesZ h z)[k].frm, (copiesZ h z)[k].til⟩]), x.spans⟩ : HeldV) ∈ l.set i ⟨x.zone, x.signed, mkF b c (x.fresh.els ++ [⟨(copiesZ h z)[k].frm, (copiesZ h z)[k].til⟩]), x.spans⟩ := List.mem_set hil _
  refine ⟨fun i' hi' q hq hc => ?_, fun y hy => ?_, by rw [List.length_set]; have := e.len; omega⟩
  · by_cases hlast : i' = k ∧ q = j
    · obtain ⟨rfl, rfl⟩ := hlast
      exact ⟨_, hnew, ht, List.mem_append_right _ (List.mem_singleton.2 rfl)⟩
    · obtain ⟨y, hy, h1, h2⟩ := e.cover i' hi' q hq (by omega)
      obtain ⟨n, hn, hyn⟩ := List.mem_iff_getElem.1 hy
      by_cases hni : n = i
      · subst hni
        have hyx : y = x := by rw [List.getElem?_eq_getElem hn] at hi; rw [← hyn]; exact Option.some.inj hi
        subst hyx
        exact ⟨_, hnew, h1, List.mem_append_left _ h2⟩
      · refine ⟨y, ?_, h1, h2⟩
        rw [List.mem_iff_getElem]
        exact ⟨n, by rw [List.length_set]; exact hn, by rw [List.getElem_set, if_neg (Ne.symm hni)]; exact hyn⟩
  · rcases List.mem_or_eq_of_mem_set hy with hy | rfl
    · exact (e.each y hy).mono (by omega) hle
    · refine ⟨hx.zone, hx.src, fun f hf => ?_, ?_, ⟨b, c, rfl⟩, hx.spans, Enc.mono hle hx.good⟩
      · rcases List.mem_append.1 hf with hf | hf
        · exact hx.times f hf
        · exact ⟨_, List.getElem_mem hk, List.mem_singleton.1 hf⟩
      · show (x.fresh.els ++ [_]).length ≤ _
        rw [List.length_append, List.length_cons, List.length_nil]
        have := hx.flen
        omega
theorem PubTo.new (e : PubTo h z k j H l) (hle : H.le H') (hk : k < (copiesZ h z).length) (hj : j < (copiesZ h z)[k].zone.sets.els.length) (sg : Signed) (hs : sg.c = ((copiesZ h z)[k].zone.sets.els[j]).c) (hg : Enc.good H' sg) (b c : Nat) :
    PubTo h z k (j + 1) H' (l ++ [⟨z, sg, mkF b c [⟨(copiesZ h z)[k].frm, (copiesZ h z)[k].til⟩], Slc.nil _⟩]) := by
  refine ⟨fun i' hi' q hq hc => ?_, fun y hy => ?_, by rw [List.length_append, List.length_cons, List.length_nil]; have := e.len; omega⟩
  · by_cases hlast : i' = k ∧ q = j
    · obtain ⟨rfl, rfl⟩ := hlast
      exact ⟨_, List.mem_append_right _ (List.mem_singleton.2 rfl), by rw [hs], List.mem_singleton.2 rfl⟩
    · obtain ⟨y, hy, h1, h2⟩ := e.cover i' hi' q hq (by omega)
      exact ⟨y, List.mem_append_left _ hy, h1, h2⟩
  · rcases List.mem_append.1 hy with hy | hy
    · exact (e.each y hy).mono (by omega) hle
    · rw [List.mem_singleton.1 hy]
      refine ⟨rfl, ⟨_, List.getElem_mem hk, _, List.getElem_mem hj, hs⟩, fun f hf => ⟨_, List.getElem_mem hk, List.mem_singleton.1 hf⟩, ?_, ⟨b, c, rfl⟩, rfl, hg⟩
      show 1 ≤ _
      omega
theorem PubTo.next (e : PubTo h z k j H l) (hk : k < (copiesZ h z).length) (hj : j = (copiesZ h z)[k].zone.sets.els.length) (h100 : j ≤ 100) : PubTo h z (k + 1) 0 H l := by
  refine ⟨fun i' hi' q hq hc => e.cover i' hi' q hq ?_, fun y hy => (e.each y hy).mono (by omega) (.refl _), by have := e.len; omega⟩
  by_cases h1 : i' = k
  · subst h1; exact .inr ⟨rfl, by omega⟩
  · exact .inl (by omega)
end
end Go.Proofs.YtepljgpikfeklaaGreatDoor
