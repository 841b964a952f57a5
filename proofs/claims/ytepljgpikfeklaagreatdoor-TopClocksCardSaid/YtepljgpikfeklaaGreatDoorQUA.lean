import Derived.Test.YtepljgpikfeklaaGreatDoorQVX
import Derived.Test.YtepljgpikfeklaaGreatDoorQVR
namespace Go.Proofs.YtepljgpikfeklaaGreatDoor
set_option linter.unusedVariables false
set_option linter.unusedSimpArgs false
open Go Go.RowKit
set_option maxRecDepth 20000
theorem hasAny_append (a b : List SpanV) (t : Int) : hasAny (a ++ b) t = (hasAny a t || hasAny b t) := by unfold hasAny; rw [List.any_append]
theorem hasAny_one (s : SpanV) (t : Int) : hasAny [s] t = hasSpan t s := by unfold hasAny; simp
theorem uniteS_spec {out : List SpanV} {s : SpanV} (h : ∀ p ∈ out, p.frm ≤ s.frm) : (∀ t, hasAny (uniteS out s) t = (hasAny out t || hasSpan t s)) ∧ (∀ p ∈ uniteS out s, (∃ a, (a ∈ out ∨ a = s) ∧ p.frm = a.frm) ∧ ∃ b, (b ∈ out ∨ b = s) ∧ p.til = b.til) := by
  unfold uniteS
  cases hl : out.getLast? with
  | none =>
    refine ⟨fun t => by rw [hasAny_append, hasAny_one], fun p hp => ?_⟩
    rcases List.mem_append.1 hp with hp | hp
    · exact ⟨⟨p, .inl hp, rfl⟩, p, .inl hp, rfl⟩
    · rw [List.mem_singleton.1 hp]; exact ⟨⟨s, .inr rfl, rfl⟩, s, .inr rfl, rfl⟩
  | some p =>
    obtain ⟨ys, rfl⟩ := List.getLast?_eq_some_iff.1 hl
    have hps := h p (List.mem_append_right _ (List.mem_singleton.2 rfl))
    simp only
    split
    · rename_i hle
      have e : (ys ++ [p]).set ((ys ++ [p]).length - 1) ⟨p.frm, if s.til > p.til then s.til else p.til⟩ = ys ++ [⟨p.frm, if s.til > p.til then s.til else p.til⟩] := by
        rw [List.length_append, List.length_cons, List.length_nil, Nat.zero_add, Nat.add_sub_cancel, List.set_append_right _ _ (Nat.le_refl _), Nat.sub_self]; rfl
      rw [e]
      refine ⟨fun t => ?_, fun q hq => ?_⟩
      · rw [hasAny_append, hasAny_append, hasAny_one, hasAny_one, Bool.or_assoc]
        congr 1
        unfold hasSpan
        simp only
        rw [Bool.eq_iff_iff]
        simp only [Bool.and_eq_true, Bool.or_eq_true, decide_eq_true_eq]
        split <;> omega
      · rcases List.mem_append.1 hq with hq | hq
        · exact ⟨⟨q, .inl (List.mem_append_left _ hq), rfl⟩, q, .inl (List.mem_append_left _ hq), rfl⟩
        · rw [List.mem_singleton.1 hq]
          refine ⟨⟨p, .inl (List.mem_append_right _ (List.mem_singleton.2 rfl)), rfl⟩, ?_⟩
          by_cases hg : s.til > p.til
          · exact ⟨s, .inr rfl, by simp only [if_pos hg]⟩
          · exact ⟨p, .inl (List.mem_append_right _ (List.mem_singleton.2 rfl)), by simp only [if_neg hg]⟩
    · refine ⟨fun t => by rw [hasAny_append (ys ++ [p]), hasAny_one], fun q hq => ?_⟩
      rcases List.mem_append.1 hq with hq | hq
      · exact ⟨⟨q, .inl hq, rfl⟩, q, .inl hq, rfl⟩
      · rw [List.mem_singleton.1 hq]; exact ⟨⟨s, .inr rfl, rfl⟩, s, .inr rfl, rfl⟩
theorem unite_fold : ∀ (l out : List SpanV), l.Pairwise (fun a b => a.frm ≤ b.frm) → (∀ p ∈ out, ∀ s ∈ l, p.frm ≤ s.frm) → (∀ t, hasAny (l.foldl uniteS out) t = (hasAny out t || hasAny l t)) ∧ (∀ p ∈ l.foldl uniteS out, (∃ a, (a ∈ out ∨ a ∈ l) ∧ p.frm = a.frm) ∧ ∃ b, (b ∈ out ∨ b ∈ l) ∧ p.til = b.til)
  | [], out, _, _ => ⟨fun t => by simp [hasAny], fun p hp => ⟨⟨p, .inl hp, rfl⟩, p, .inl hp, rfl⟩⟩
  | s :: l, out, hs, ho => by
    obtain ⟨h1, h2⟩ := List.pairwise_cons.1 hs
    obtain ⟨e1, e2⟩ := uniteS_spec (out := out) (s := s) fun p hp => ho p hp s (List.mem_cons_self ..)
    obtain ⟨f1, f2⟩ := unite_fold l (uniteS out s) h2 fun p hp x hx => by
      obtain ⟨⟨a, ha, hpa⟩, _⟩ := e2 p hp
      rw [hpa]
      rcases ha with ha | rfl
      · exact ho a ha x (List.mem_cons_of_mem _ hx)
      · exact h1 x hx
    refine ⟨fun t => ?_, fun p hp => ?_⟩
    · rw [List.foldl_cons, f1, e1, Bool.or_assoc]
      congr 1
    · rw [List.foldl_cons] at hp
      obtain ⟨⟨a, ha, hpa⟩, b, hb, hpb⟩ := f2 p hp
      constructor
      · rcases ha with ha | ha
        · obtain ⟨⟨a', ha', e⟩, _⟩ := e2 a ha
          refine ⟨a', ?_, hpa.trans e⟩
          rcases ha' with h | rfl
          · exact .inl h
          · exact .inr (List.mem_cons_self ..)
        · exact ⟨a, .inr (List.mem_cons_of_mem _ ha), hpa⟩
      · rcases hb with hb | hb
        · obtain ⟨_, b', hb', e⟩ := e2 b hb
          refine ⟨b', ?_, hpb.trans e⟩
          rcases hb' with h | rfl
          · exact .inl h
          · exact .inr (List.mem_cons_self ..)
        · exact ⟨b, .inr (List.mem_cons_of_mem _ hb), hpb⟩
theorem uniteS_full {out : List SpanV} {s : SpanV} (h : ∀ p ∈ out, p.frm < p.til) (hs : s.frm < s.til) : ∀ p ∈ uniteS out s, p.frm < p.til := fun q hq => by
  unfold uniteS at hq
  cases hl : out.getLast? with
  | none =>
    rw [hl] at hq
    rcases List.mem_append.1 hq with hq | hq
    · exact h q hq
    · rw [List.mem_singleton.1 hq]; exact hs
  | some p =>
    rw [hl] at hq
    simp only at hq
    have hp := h p (List.mem_of_getLast? hl)
    split at hq
    · rcases List.mem_or_eq_of_mem_set hq with hq | hq
      · exact h q hq
      · rw [hq]
        show p.frm < if s.til > p.til then s.til else p.til
        split <;> omega
    · rcases List.mem_append.1 hq with hq | hq
      · exact h q hq
      · rw [List.mem_singleton.1 hq]; exact hs
theorem unite_full : ∀ (l out : List SpanV), (∀ p ∈ out, p.frm < p.til) → (∀ p ∈ l, p.frm < p.til) → ∀ p ∈ l.foldl uniteS out, p.frm < p.til
  | [], out, h, _ => h
  | s :: l, out, h, hl => by
    rw [List.foldl_cons]
    exact unite_full l _ (uniteS_full h (hl s (List.mem_cons_self ..))) fun p hp => hl p (List.mem_cons_of_mem _ hp)
theorem hasAny_iff {l : List SpanV} {t : Int} : hasAny l t = true ↔ ∃ s ∈ l, s.frm ≤ t ∧ t < s.til := by
  unfold hasAny hasSpan
  simp [List.any_eq_true]
structure NormS (xs zs : List SpanV) : Prop where
  has : ∀ t, hasAny zs t = hasAny xs t
  ends : ∀ p ∈ zs, (∃ a ∈ xs, p.frm = a.frm) ∧ ∃ b ∈ xs, p.til = b.til
  len : zs.length ≤ xs.length
  full : ∀ p ∈ zs, p.frm < p.til
theorem normS {xs ys zs : List SpanV} (h : SpansSorted (xs.filter fullS) ys) (e : zs = uniteC ys) : NormS xs zs := by
  subst e
  obtain ⟨f1, f2⟩ := unite_fold ys [] h.ord (fun p hp => by cases hp)
  have hm : ∀ {a}, a ∈ ys → a ∈ xs := fun ha => (List.mem_filter.1 (h.perm.mem_iff.1 ha)).1
  refine ⟨fun t => ?_, fun p hp => ?_, ?_, unite_full ys [] (fun p hp => by cases hp) fun p hp => of_decide_eq_true (List.mem_filter.1 (h.perm.mem_iff.1 hp)).2⟩
  · rw [show uniteC ys = ys.foldl uniteS [] from rfl, f1]
    rw [Bool.eq_iff_iff]
    simp only [Bool.or_eq_true, hasAny_iff]
    constructor
    · rintro (⟨s, hs, _⟩ | ⟨s, hs, h1, h2⟩)
      · cases hs
      · exact ⟨s, hm hs, h1, h2⟩
    · rintro ⟨s, hs, h1, h2⟩
      exact .inr ⟨s, h.perm.mem_iff.2 (List.mem_filter.2 ⟨hs, decide_eq_true (show s.frm < s.til by omega)⟩), h1, h2⟩
  · obtain ⟨⟨a, ha, e1⟩, b, hb, e2⟩ := f2 p hp
    refine ⟨⟨a, hm (ha.resolve_left (by simp)), e1⟩, b, hm (hb.resolve_left (by simp)), e2⟩
  · have h1 := (uniUp_len ys ys.length (Nat.le_refl _)).1
    have h2 : uniUp ys ys.length = uniteC ys := by unfold uniUp uniteC; rw [List.take_length]
    rw [h2] at h1
    have h3 := h.perm.length_eq
    have h4 := List.length_filter_le fullS xs
    omega
structure PubOK (h : HistV) (z : Bytes) (out : List HeldV) : Prop where
  cover : ∀ c ∈ copiesZ h z, ∀ s ∈ c.zone.sets.els, ∃ y ∈ out, y.signed.c = s.c ∧ ∀ t, c.frm ≤ t → t < c.til → hasAny y.fresh.els t = true
  zone : ∀ y ∈ out, y.zone = z
  src : ∀ y ∈ out, ∃ c ∈ copiesZ h z, ∃ s ∈ c.zone.sets.els, y.signed.c = s.c
  ends : ∀ y ∈ out, ∀ f ∈ y.fresh.els, (∃ c ∈ copiesZ h z, f.frm = c.frm) ∧ ∃ c ∈ copiesZ h z, f.til = c.til
  full : ∀ y ∈ out, ∀ f ∈ y.fresh.els, f.frm < f.til
  flen : ∀ y ∈ out, y.fresh.els.length ≤ 2000
  spans : ∀ y ∈ out, y.spans = Slc.nil _
  len : out.length ≤ 100 * (copiesZ h z).length
theorem pubOK {h : HistV} {z : Bytes} {H : Hp} {out : List HeldV} (hp : PubOut h z H out) (hv : ∀ c ∈ copiesZ h z, ∀ s ∈ c.zone.sets.els, ValidS s.c) (hn : (copiesZ h z).length ≤ 20) : PubOK h z out := by
  obtain ⟨l, H0, hto, hle, hd⟩ := hp
  have hlen := hto.len
  rw [Nat.add_zero] at hlen
  have hdt : l.take l.length = l := List.take_length
  refine ⟨fun c hc s hs => ?_, fun y hy => ?_, fun y hy => ?_, fun y hy f hf => ?_, fun y hy f hf => ?_, fun y hy => ?_, fun y hy => ?_, by rw [hd.len]; exact hlen⟩
  · obtain ⟨i, hi, rfl⟩ := List.mem_iff_getElem.1 hc
    obtain ⟨q, hq, rfl⟩ := List.mem_iff_getElem.1 hs
    obtain ⟨x, hx, h1, h2⟩ := hto.cover i hi q hq (.inl hi)
    obtain ⟨y, hy, hxy⟩ := hd.to x (by rw [hdt]; exact hx)
    obtain ⟨c', hc', s', hs', e'⟩ := (hto.each x hx).src
    obtain ⟨ys, hys, hye⟩ := hxy.fresh
    have hxs := text_inj (by rw [e']; exact hv c' hc' s' hs') (hv _ hc _ hs) h1
    refine ⟨y, hy, by rw [hxy.signed]; exact hxs, fun t h3 h4 => ?_⟩
    rw [(normS hys hye).has, hasAny_iff]
    exact ⟨_, h2, h3, h4⟩
  · obtain ⟨x, hx, hxy⟩ := hd.from y hy
    rw [hxy.zone]; exact (hto.each x hx).zone
  · obtain ⟨x, hx, hxy⟩ := hd.from y hy
    rw [hxy.signed]; exact (hto.each x hx).src
  · obtain ⟨x, hx, hxy⟩ := hd.from y hy
    obtain ⟨ys, hys, hye⟩ := hxy.fresh
    obtain ⟨⟨a, ha, e1⟩, b, hb, e2⟩ := (normS hys hye).ends f hf
    obtain ⟨c, hc, rfl⟩ := (hto.each x hx).times a ha
    obtain ⟨d, hd, rfl⟩ := (hto.each x hx).times b hb
    exact ⟨⟨c, hc, e1⟩, d, hd, e2⟩
  · obtain ⟨x, hx, hxy⟩ := hd.from y hy
    obtain ⟨ys, hys, hye⟩ := hxy.fresh
    exact (normS hys hye).full f hf
  · obtain ⟨x, hx, hxy⟩ := hd.from y hy
    obtain ⟨ys, hys, hye⟩ := hxy.fresh
    have h1 := (normS hys hye).len
    have h2 := (hto.each x hx).flen
    omega
  · obtain ⟨x, hx, hxy⟩ := hd.from y hy
    rw [hxy.spans]; exact (hto.each x hx).spans
end Go.Proofs.YtepljgpikfeklaaGreatDoor
namespace Go.Proofs.YtepljgpikfeklaaGreatDoor
set_option linter.unusedVariables false
set_option linter.unusedSimpArgs false
open Go Go.RowKit
open Enc (enc)
set_option maxRecDepth 20000
def endC (s : SignedC) (d til : Int) : Int := match s.sigs with
  | [] => til - 1 + maxI s.set.life 1 + 2 * d
  | g :: _ => minI (til - 1 + maxI s.set.life 1 + 2 * d) (g.til + d + 1)
def growC (s : SignedC) (d : Int) (f : SpanV) : SpanV := ⟨f.frm, maxI f.til (endC s d f.til)⟩
structure MidS (s : SignedC) : Prop where
  life : 0 ≤ s.set.life ∧ s.set.life ≤ 100000
  sigs : ∀ g ∈ s.sigs, 0 ≤ g.til ∧ g.til ≤ 20000000
theorem maxI_le {a b : Int} : a ≤ maxI a b ∧ b ≤ maxI a b ∧ (maxI a b = a ∨ maxI a b = b) := by unfold maxI; split <;> omega
theorem minI_le {a b : Int} : minI a b ≤ a ∧ minI a b ≤ b ∧ (minI a b = a ∨ minI a b = b) := by unfold minI; split <;> omega
theorem endC_le (s : SignedC) (d til : Int) : endC s d til ≤ til - 1 + maxI s.set.life 1 + 2 * d := by
  unfold endC
  split
  · exact Int.le_refl _
  · exact minI_le.1
theorem growC_in {s : SignedC} {d : Int} {f : SpanV} (hs : MidS s) (hd : 0 ≤ d ∧ d ≤ 1000) (h1 : 0 ≤ f.frm) (h2 : f.frm ≤ f.til) (h3 : f.til ≤ 10000000) : NormIn (growC s d f) ∧ I64 (growC s d f).frm ∧ I64 (growC s d f).til := by
  have h4 := hs.life
  have h5 := endC_le s d f.til
  have h6 := @maxI_le f.til (endC s d f.til)
  have h7 := @maxI_le s.set.life 1
  have hf : (growC s d f).frm = f.frm := rfl
  have ht : (growC s d f).til = maxI f.til (endC s d f.til) := rfl
  unfold NormIn I64
  rw [hf, ht]
  omega
set_option maxHeartbeats 4000000 in
theorem c_used1 (x : HeldV) (d : Int) (s : SpanV) (b2 b3 : Nat) {H : Hp} {w : World} (hs : Sat H w) (hx : H.cells b2 0 (enc x)) (hd : H.cells b3 0 [intV d]) (hg : Enc.good H x) (hm : MidS x.signed.c) (hd2 : 0 ≤ d ∧ d ≤ 1000) (h1 : 0 ≤ s.frm) (h2 : s.frm ≤ s.til) (h3 : s.til ≤ 10000000) : Calls Tryz.prog 132 #[.agg (enc s).toArray, .pointer (some ⟨b2, 0, none⟩), .pointer (some ⟨b3, 0, none⟩)] w (Ret w (.agg (enc (growC x.signed.c d s)).toArray)) := by
  have hl : 0 ≤ x.signed.set.life ∧ x.signed.set.life ≤ 100000 := hm.life
  have hm7 := @maxI_le x.signed.set.life 1
  have hsg : x.signed.sigs.Good H := hg.2.1.2
  have hlen := hsg.len
  refine T.enter (vs := [.agg (enc s).toArray, .pointer (some ⟨b2, 0, none⟩), .pointer (some ⟨b3, 0, none⟩)]) (H := H) Tryz.func132 rfl rfl rfl hs ?_
  by_cases h0 : 0 < x.signed.sigs.len
  · have h0l : 0 < x.signed.sigs.els.length := by omega
    obtain ⟨g, hg0⟩ : ∃ g, x.signed.sigs.els[0]'h0l = g := ⟨_, rfl⟩
    have hgm : 0 ≤ g.til ∧ g.til ≤ 20000000 := hm.sigs g (hg0 ▸ List.getElem_mem h0l)
    have hcell : H.cell x.signed.sigs.b (x.signed.sigs.o + 0 * 6 + 4) = some (intV g.til) := by
      rw [← hg0]; exact hsg.cell (k := 0) (j := 4) h0 rfl
    have he : endC x.signed.c d s.til = minI (s.til - 1 + maxI x.signed.set.life 1 + 2 * d) (g.til + d + 1) := by
      unfold endC
      have : x.signed.c.sigs = g :: x.signed.sigs.els.tail := by
        show x.signed.sigs.els = _
        rw [← hg0, ← List.drop_one]
        exact List.drop_eq_getElem_cons h0l
      rw [this]
      rfl
    repeat (any_goals (first | refine T.seq ?_ | refine T.region ?_ | (apply T.regionD wide; rfl) | refine TL.nil ?_ | refine N.next ?_ | refine T.ret ?_ | refine T.skip ?_ | (apply T.test; rfl; (exact isx); intro _; rotate_left; intro _; rotate_right) | (apply TL.x; rfl; rfl; (apply X.box (d := 3); rfl; rfl; rfl); intro bs _) | (apply TL.x; rfl; rfl; (apply X.alloc (d := 4); rfl; rfl; rfl); intro b4 _) | (apply TL.val; rfl; rfl; (apply V.load_H; rfl; rfl; rfl; first | exact hx 0 _ rfl | exact hx 1 _ rfl | exact hx 2 _ rfl | exact hx 3 _ rfl | exact hx 4 _ rfl | exact hx 5 _ rfl | exact hx 6 _ rfl | exact hx 7 _ rfl)) | (apply GT.read; (iterate 4 rfl); (apply V.load_H; rfl; rfl; rfl; first | exact hx 0 _ rfl | exact hx 1 _ rfl | exact hx 2 _ rfl | exact hx 3 _ rfl | exact hx 4 _ rfl | exact hx 5 _ rfl | exact hx 6 _ rfl | exact hx 7 _ rfl); decide +kernel) | (apply TL.val; rfl; rfl; (apply V.load_H; rfl; rfl; rfl; exact hd 0 _ rfl)) | (apply GT.read; (iterate 4 rfl); (apply V.load_H; rfl; rfl; rfl; exact hd 0 _ rfl); decide +kernel) | (apply TL.val; rfl; rfl; (apply V.max (M := maxI x.signed.set.life 1) rfl; rfl; rfl)) | (apply GT.pure; (iterate 4 rfl); (apply V.elem (j := 0); (iterate 6 rfl); exact h0; exact hsg.at_ h0); decide +kernel) | (apply GT.read; (iterate 4 rfl); (apply V.load_H; rfl; rfl; rfl; exact hcell); decide +kernel) | (apply GT.pure; (iterate 4 rfl); (apply V.min (M := minI (s.til - 1 + maxI x.signed.set.life 1 + 2 * d) (g.til + d + 1)) rfl; rfl; rfl); decide +kernel) | (apply TL.val; rfl; rfl; (apply V.max (M := maxI s.til (minI (s.til - 1 + maxI x.signed.set.life 1 + 2 * d) (g.til + d + 1))) rfl; rfl; rfl)) | (apply TL.val; rfl; rfl; (apply V.build; (iterate 6 rfl))) | (apply TL.x; rfl; rfl; (apply X.storeTo 0 (enc (growC x.signed.c d s)); (iterate 8 rfl); (unfold growC; rw [he]; rfl); rfl); intro _ _) | (apply TL.val; rfl; rfl; (first | exact vpure | exact vread)) | (apply GT.pure; (iterate 4 rfl); (first | exact vpure); decide +kernel) | (apply GT.done; decide +kernel; apply N.ofQ)))
    all_goals (try contradiction)
    all_goals (try (exfalso; omega))
    exact N.ret_val rfl (by (exact rvx)) rfl
  · have hnil : x.signed.sigs.els = [] := List.length_eq_zero_iff.1 (by omega)
    have he : endC x.signed.c d s.til = s.til - 1 + maxI x.signed.set.life 1 + 2 * d := by
      unfold endC
      have : x.signed.c.sigs = [] := hnil
      rw [this]
      rfl
    repeat (any_goals (first | refine T.seq ?_ | refine T.region ?_ | (apply T.regionD wide; rfl) | refine TL.nil ?_ | refine N.next ?_ | refine T.ret ?_ | refine T.skip ?_ | (apply T.test; rfl; (exact isx); intro _; rotate_left; intro _; rotate_right) | (apply TL.x; rfl; rfl; (apply X.box (d := 3); rfl; rfl; rfl); intro bs _) | (apply TL.x; rfl; rfl; (apply X.alloc (d := 4); rfl; rfl; rfl); intro b4 _) | (apply TL.val; rfl; rfl; (apply V.load_H; rfl; rfl; rfl; first | exact hx 0 _ rfl | exact hx 1 _ rfl | exact hx 2 _ rfl | exact hx 3 _ rfl | exact hx 4 _ rfl | exact hx 5 _ rfl | exact hx 6 _ rfl | exact hx 7 _ rfl)) | (apply GT.read; (iterate 4 rfl); (apply V.load_H; rfl; rfl; rfl; first | exact hx 0 _ rfl | exact hx 1 _ rfl | exact hx 2 _ rfl | exact hx 3 _ rfl | exact hx 4 _ rfl | exact hx 5 _ rfl | exact hx 6 _ rfl | exact hx 7 _ rfl); decide +kernel) | (apply TL.val; rfl; rfl; (apply V.load_H; rfl; rfl; rfl; exact hd 0 _ rfl)) | (apply GT.read; (iterate 4 rfl); (apply V.load_H; rfl; rfl; rfl; exact hd 0 _ rfl); decide +kernel) | (apply TL.val; rfl; rfl; (apply V.max (M := maxI x.signed.set.life 1) rfl; rfl; rfl)) | (apply TL.val; rfl; rfl; (apply V.max (M := maxI s.til (s.til - 1 + maxI x.signed.set.life 1 + 2 * d)) rfl; rfl; rfl)) | (apply TL.val; rfl; rfl; (apply V.build; (iterate 6 rfl))) | (apply TL.x; rfl; rfl; (apply X.storeTo 0 (enc (growC x.signed.c d s)); (iterate 8 rfl); (unfold growC; rw [he]; rfl); rfl); intro _ _) | (apply TL.val; rfl; rfl; (first | exact vpure | exact vread)) | (apply GT.pure; (iterate 4 rfl); (first | exact vpure); decide +kernel) | (apply GT.read; (iterate 4 rfl); (first | exact vpure | exact vread); decide +kernel) | (apply GT.fork1; decide +kernel)))
    all_goals (try contradiction)
    all_goals (try (exfalso; omega))
    exact N.ret_val rfl (by (exact rvx)) rfl
set_option maxHeartbeats 4000000 in
theorem c_used (x : HeldV) (d : Int) {H : Hp} {w : World} (hs : Sat H w) (hg : Enc.good H x) (hm : MidS x.signed.c) (hd2 : 0 ≤ d ∧ d ≤ 1000) (hf : ∀ f ∈ x.fresh.els, 0 ≤ f.frm ∧ f.frm ≤ f.til ∧ f.til ≤ 10000000) (hl : x.fresh.len ≤ 2000) : Calls Tryz.prog 73 #[.agg (enc x).toArray, intV d] w (RetF w H (fun p : Hp × Slc SpanV => NormS (x.fresh.els.map (growC x.signed.c d)) p.2.els ∧ p.2.Good p.1) (fun p => p.2.v) (fun p => p.1)) := by
  refine T.enter (vs := [.agg (enc x).toArray, intV d]) (H := H) Tryz.func73 rfl rfl rfl hs ?_
  repeat (any_goals (first | refine T.seq ?_ | refine T.region ?_ | refine TL.nil ?_ | refine N.next ?_ | refine T.block ?_ | (apply TL.x; rfl; rfl; (apply X.box (d := 2); rfl; rfl; rfl); intro b2 _; apply TL.frzZ 0; rfl; intro H1 z2 hle1) | (apply TL.x; rfl; rfl; (apply X.box (d := 3); rfl; rfl; rfl); intro b3 _; apply TL.frzZ 0; rfl; intro H2 z3 hle2; have z2 := Hp.cells_le hle2 z2) | (apply TL.val; rfl; rfl; ((apply V.makeFunc (vs := []) (us := [.pointer (some ⟨b2, 0, none⟩), .pointer (some ⟨b3, 0, none⟩)]) <;> rfl))) | (apply TL.val; rfl; rfl; (apply V.load_H; rfl; rfl; rfl; first | exact z2 0 _ rfl | exact z2 1 _ rfl | exact z2 2 _ rfl | exact z2 3 _ rfl | exact z2 4 _ rfl | exact z2 5 _ rfl | exact z2 6 _ rfl | exact z2 7 _ rfl)) | (apply TL.val; rfl; rfl; (first | exact vpure | exact vread))))
  all_goals (try contradiction)
  have hg2 : Enc.good H2 x := Enc.mono (hle1.trans hle2) hg
  have hfr : x.fresh.Good H2 := hg2.2.2.1
  have hlen := hfr.len
  have hgr : ∀ f ∈ x.fresh.els, NormIn (growC x.signed.c d f) ∧ I64 (growC x.signed.c d f).frm ∧ I64 (growC x.signed.c d f).til := fun f hf' => by
    obtain ⟨h1, h2, h3⟩ := hf f hf'
    exact growC_in hm hd2 h1 h2 h3
  obtain ⟨gs, hgs⟩ : ∃ gs, x.fresh.els.map (growC x.signed.c d) = gs := ⟨_, rfl⟩
  have hgl : gs.length = x.fresh.len := by rw [← hgs, List.length_map, hlen]
  rw [hgs]
  refine T.nilRow 134 2 ?_
  refine T.loop (G := Value × Nat) (fun g => [(2, .pointer (some ⟨b2, 0, none⟩)), (3, .pointer (some ⟨b3, 0, none⟩)), (5, .func (.func 132) #[] #[.pointer (some ⟨b2, 0, none⟩), .pointer (some ⟨b3, 0, none⟩)]), (6, g.1), (11, x.fresh.v), (12, intV x.fresh.len), (13, intV g.2)]) (fun _ => H2) (fun g => [.row g.1 134 2 g.2 (encs (gs.take g.2))]) (fun g => g.2 ≤ x.fresh.len) (fun g => x.fresh.len - g.2) (.slice none 0 0, 0) (Nat.zero_le _) (by (repeat (first | exact True.intro | refine ⟨rfl, ?_⟩ | refine Sub.int rfl (by omega) ?_))) rfl (by (repeat (first | exact List.Sublist.refl _ | exact List.nil_sublist _ | apply List.Sublist.cons_cons | apply List.Sublist.cons))) ?_
  rintro ⟨v, k⟩ hk
  simp only at hk ⊢
  by_cases hlt : k < x.fresh.len
  · have hkl : k < x.fresh.els.length := by omega
    obtain ⟨s, hs⟩ : ∃ s, x.fresh.els[k]'hkl = s := ⟨_, rfl⟩
    obtain ⟨h1, h2, h3⟩ := hf s (hs ▸ List.getElem_mem hkl)
    have hrow := hfr.row (k := k) hlt
    rw [hs] at hrow
    have hup : gs.take (k + 1) = gs.take k ++ [growC x.signed.c d s] := by
      rw [List.take_succ_eq_append_getElem (by omega)]
      congr 2
      simp only [← hgs, List.getElem_map, hs]
    have htl : (gs.take k).length = k := by rw [List.length_take]; omega
    repeat (any_goals (first | refine T.seq ?_ | refine T.region ?_ | refine TL.nil ?_ | refine N.next ?_ | refine N.inBlock ?_ | refine N.exit_same ?_ | refine N.exit_then ?_ | refine T.skip ?_ | refine T.exit ?_ | refine T.block ?_ | (apply T.test; rfl; (exact isx); intro _; rotate_left; intro _; rotate_right) | (apply TL.val; rfl; rfl; (apply V.elem (j := k); (iterate 6 rfl); omega; exact hfr.at_ (by omega))) | (apply TL.val; rfl; rfl; (apply V.load_H_row; rfl; rfl; rfl; exact hrow; rfl)) | (apply TL.x; rfl; rfl; (apply X.alloc (d := 8); rfl; rfl; rfl); intro b8 _) | (apply TL.x; rfl; rfl; (apply X.storeTo 0 (enc s); (iterate 10 rfl)); intro _ _) | (apply TL.call; (iterate 4 rfl); exact Tryz.call132; exact fun _ hs => c_used1 x d s b2 b3 hs.sat z2 z3 hg2 hm hd2 h1 h2 h3) | (apply TL.x; rfl; rfl; (apply X.buildSlice1 (d := 21); (iterate 8 rfl)); intro b21 _) | (apply TL.x; rfl; rfl; (apply X.append1 2; (iterate 9 rfl); exact List.Mem.head _; rfl; rfl; rfl; (refine Nat.le_trans (Nat.mul_le_mul_right _ (show _ ≤ 20001 by omega)) ?_; decide); omega); intro pa _) | (apply TL.val; rfl; rfl; (first | exact vpure | exact vread))))
    all_goals (try contradiction)
    all_goals (try (exfalso; omega))
    refine N.round (.slice (some ⟨pa.1, 0, none⟩) (k + 1) pa.2, k + 1) (by show k + 1 ≤ _; omega) (by show x.fresh.len - (k + 1) < x.fresh.len - k; omega) (by (repeat (first | exact True.intro | refine ⟨rfl, ?_⟩ | refine Sub.int rfl (by omega) ?_))) rfl ?_
    show List.Sublist [Loc.row (.slice (some ⟨pa.1, 0, none⟩) (k + 1) pa.2) 134 2 (k + 1) (encs (gs.take (k + 1)))] _
    rw [hup, encs_snoc]
    exact .cons _ (.cons _ (List.Sublist.refl _))
  · have hke : k = x.fresh.len := by omega
    subst hke
    have htk : gs.take x.fresh.len = gs := List.take_of_length_le (by omega)
    rw [htk]
    refine T.frzRow 0 (v := v) (e := 134) (size := 2) (els := gs) (m := x.fresh.len) rfl rfl hgl (fun s hs => ?_) ?_
    · rw [← hgs] at hs
      obtain ⟨f, hf', rfl⟩ := List.mem_map.1 hs
      exact (hgr f hf').2
    intro H3 sf e1 e2 e3 hle3
    subst e1
    have hsl : sf.len = gs.length := by rw [← e3.len, e2]
    repeat (any_goals (first | refine T.seq ?_ | refine T.region ?_ | refine TL.nil ?_ | refine N.next ?_ | refine N.exit_same ?_ | refine N.exit_then ?_ | refine T.ret ?_ | refine T.skip ?_ | refine T.exit ?_ | refine T.block ?_ | (apply T.test; rfl; (exact isx); intro _; rotate_left; intro _; rotate_right) | (apply TL.x; rfl; rfl; (apply X.callFE (f := 131) [sf.v] Tryz.call131; rfl; rfl; rfl; exact (fun _ hs => c_Normal sf (by omega) (by rw [e2, ← hgs]; intro s hs; obtain ⟨f, hf', rfl⟩ := List.mem_map.1 hs; exact (hgr f hf').1) hs.sat e3)); rintro ⟨Hn, sn⟩ ⟨⟨⟨ys, hn1, hn2⟩, hn3⟩, hn4⟩) | (apply TL.val; rfl; rfl; (first | exact vpure | exact vread))))
    all_goals (try contradiction)
    all_goals (try (exfalso; omega))
    rw [e2] at hn1
    exact N.ret1 rfl (by (exact rvx)) fun w1 hst => ⟨(Hn, sn), ⟨normS hn1 hn2, hn3⟩, rfl, hst.fresh⟩
end Go.Proofs.YtepljgpikfeklaaGreatDoor
namespace Go.Proofs.YtepljgpikfeklaaGreatDoor
set_option linter.unusedVariables false
set_option linter.unusedSimpArgs false
open Go Go.RowKit
set_option maxRecDepth 20000
section
variable {P : Program} {n : FK} {w0 : World} {H0 H : Hp} {Q : Exit → Act → World → Prop} {env : List (Nat × Value)} {L : List Loc} {c : Code} {v : Value} {e : TypeId} {size m : Nat} {xs : List Value}
theorem T.shapeU (i : Nat) (hi : L[i]? = some (.row v e size m xs)) (h : ∀ (o : Option Nat) (cp : Nat), v = .slice (o.map fun g => ⟨g, 0, none⟩) m cp → (o = none → m = 0 ∧ cp = 0) → T P n w0 H0 c Q env H L) : T P n w0 H0 c Q env H L := ⟨fun a w hf hs => by
  obtain ⟨o, cp, hv, h0⟩ := hs.rowShape (List.mem_of_getElem? hi)
  exact (h o cp hv h0).out a w hf hs⟩
end
theorem uniqC_nodup (l : List Bytes) : (uniqC l).Nodup := foldZ_nodup List.nodup_nil
theorem sum_none {a : Bytes} : ∀ {zs : List Bytes}, a ∉ zs → (zs.map fun z => if a = z then 1 else 0).sum = 0
  | [], _ => rfl
  | z :: zs, h => by
    have hne : ¬ a = z := fun e => h (by rw [e]; exact List.mem_cons_self ..)
    rw [List.map_cons, List.sum_cons, sum_none fun hm => h (List.mem_cons_of_mem _ hm), if_neg hne]
theorem sum_one {a : Bytes} : ∀ {zs : List Bytes}, zs.Nodup → (zs.map fun z => if a = z then 1 else 0).sum ≤ 1
  | [], _ => Nat.zero_le _
  | z :: zs, h => by
    obtain ⟨h1, h2⟩ := List.nodup_cons.1 h
    rw [List.map_cons, List.sum_cons]
    by_cases e : a = z
    · subst e
      rw [if_pos rfl, sum_none h1]; exact Nat.le_refl _
    · rw [if_neg e, Nat.zero_add]; exact sum_one h2
theorem sum_filter {zs : List Bytes} (hz : zs.Nodup) : ∀ (l : List CopyV), (zs.map fun z => (l.filter fun c => decide (c.zone.apex = z)).length).sum ≤ l.length
  | [] => by
    have : (zs.map fun z => (([] : List CopyV).filter fun c => decide (c.zone.apex = z)).length).sum = 0 := by
      clear hz
      induction zs with
      | nil => rfl
      | cons z zs ih => rw [List.map_cons, List.sum_cons, ih]; rfl
    omega
  | c :: l => by
    have h1 := sum_filter hz l
    have h2 := sum_one (a := c.zone.apex) hz
    have e : (zs.map fun z => ((c :: l).filter fun c => decide (c.zone.apex = z)).length).sum = (zs.map fun z => if c.zone.apex = z then 1 else 0).sum + (zs.map fun z => (l.filter fun c => decide (c.zone.apex = z)).length).sum := by
      clear h1 h2 hz
      induction zs with
      | nil => rfl
      | cons z zs ih =>
        rw [List.map_cons, List.map_cons, List.map_cons, List.sum_cons, List.sum_cons, List.sum_cons, ih]
        have : ((c :: l).filter fun c => decide (c.zone.apex = z)).length = (if c.zone.apex = z then 1 else 0) + (l.filter fun c => decide (c.zone.apex = z)).length := by
          by_cases h : c.zone.apex = z
          · rw [List.filter_cons_of_pos (by simpa using h), List.length_cons, if_pos h]; omega
          · rw [List.filter_cons_of_neg (by simpa using h), if_neg h]; omega
        omega
    rw [e, List.length_cons]
    exact Nat.le_trans (Nat.add_le_add h2 h1) (by omega)
structure HeldOf (h : HistV) (y : HeldV) : Prop where
  src : ∃ c ∈ h.copies.els, y.zone = c.zone.apex ∧ ∃ s ∈ c.zone.sets.els, y.signed.c = s.c
  ends : ∀ f ∈ y.fresh.els, (∃ c ∈ h.copies.els, f.frm = c.frm) ∧ ∃ c ∈ h.copies.els, f.til = c.til
  full : ∀ f ∈ y.fresh.els, f.frm < f.til
  flen : y.fresh.els.length ≤ 2000
structure Gath (h : HistV) (zs : List Bytes) (H : Hp) (out : List HeldV) : Prop where
  cover : ∀ c ∈ h.copies.els, c.zone.apex ∈ zs → ∀ s ∈ c.zone.sets.els, ∃ y ∈ out, y.zone = c.zone.apex ∧ y.signed.c = s.c ∧ ∀ t, c.frm ≤ t → t < c.til → hasAny y.fresh.els t = true
  each : ∀ y ∈ out, HeldOf h y
  spans : ∀ y ∈ out, y.spans = Slc.nil _
  good : ∀ y ∈ out, Enc.good H y
  len : out.length ≤ 100 * (zs.map fun z => (copiesZ h z).length).sum
theorem Gath.start {h : HistV} {H : Hp} : Gath h [] H [] := ⟨fun c _ hc => (by cases hc), fun y hy => (by cases hy), fun y hy => (by cases hy), fun y hy => (by cases hy), Nat.zero_le _⟩
theorem Gath.next {h : HistV} {zs : List Bytes} {H H' : Hp} {out l : List HeldV} {z : Bytes} (g : Gath h zs H out) (hle : H.le H') (p : PubOK h z l) (hl : ∀ y ∈ l, Enc.good H' y) : Gath h (zs ++ [z]) H' (out ++ l) := by
  have hm : ∀ {c : CopyV}, c ∈ copiesZ h z → c ∈ h.copies.els ∧ c.zone.apex = z := fun hc => by
    obtain ⟨h1, h2⟩ := List.mem_filter.1 hc
    exact ⟨h1, by simpa using h2⟩
  refine ⟨fun c hc hz s hs => ?_, fun y hy => ?_, fun y hy => ?_, fun y hy => ?_, ?_⟩
  · rcases List.mem_append.1 hz with hz | hz
    · obtain ⟨y, hy, h1⟩ := g.cover c hc hz s hs
      exact ⟨y, List.mem_append_left _ hy, h1⟩
    · have hz := List.mem_singleton.1 hz
      obtain ⟨y, hy, h1, h2⟩ := p.cover c (List.mem_filter.2 ⟨hc, decide_eq_true hz⟩) s hs
      exact ⟨y, List.mem_append_right _ hy, by rw [p.zone y hy, hz], h1, h2⟩
  · rcases List.mem_append.1 hy with hy | hy
    · exact g.each y hy
    · refine ⟨?_, fun f hf => ?_, p.full y hy, p.flen y hy⟩
      · obtain ⟨c, hc, s, hs, e⟩ := p.src y hy
        exact ⟨c, (hm hc).1, by rw [p.zone y hy, (hm hc).2], s, hs, e⟩
      · obtain ⟨⟨a, ha, e1⟩, b, hb, e2⟩ := p.ends y hy f hf
        exact ⟨⟨a, (hm ha).1, e1⟩, b, (hm hb).1, e2⟩
  · rcases List.mem_append.1 hy with hy | hy
    · exact g.spans y hy
    · exact p.spans y hy
  · rcases List.mem_append.1 hy with hy | hy
    · exact Enc.mono hle (g.good y hy)
    · exact hl y hy
  · rw [List.length_append, List.map_append, List.sum_append]
    have h1 := g.len
    have h2 := p.len
    simp only [List.map_cons, List.map_nil, List.sum_cons, List.sum_nil]
    omega
structure UseOf (h : HistV) (H : Hp) (x y : HeldV) : Prop where
  zone : y.zone = x.zone
  signed : y.signed = x.signed
  fresh : y.fresh = x.fresh
  spans : NormS (x.fresh.els.map (growC x.signed.c h.drift)) y.spans.els
  good : y.spans.Good H
theorem UseOf.mono {h : HistV} {H H' : Hp} {x y : HeldV} (hle : H.le H') (u : UseOf h H x y) : UseOf h H' x y := ⟨u.zone, u.signed, u.fresh, u.spans, u.good.mono hle⟩
structure Used (h : HistV) (H : Hp) (l done : List HeldV) (k : Nat) : Prop where
  len : done.length = k
  «from» : ∀ y ∈ done, ∃ x ∈ l, UseOf h H x y
  to : ∀ x ∈ l.take k, ∃ y ∈ done, UseOf h H x y
theorem Used.more {h : HistV} {H H' : Hp} {l done : List HeldV} {k : Nat} {x y : HeldV} (d : Used h H l done k) (hx : l[k]? = some x) (n : UseOf h H' x y) (hle : H.le H') : Used h H' l (done ++ [y]) (k + 1) := by
  obtain ⟨hk, hxe⟩ := List.getElem?_eq_some_iff.1 hx
  refine ⟨by rw [List.length_append, d.len]; rfl, fun u hu => ?_, fun u hu => ?_⟩
  · rcases List.mem_append.1 hu with hu | hu
    · obtain ⟨v, hv, hn⟩ := d.from u hu
      exact ⟨v, hv, hn.mono hle⟩
    · rw [List.mem_singleton.1 hu]
      exact ⟨x, List.mem_of_getElem? hx, n⟩
  · rw [List.take_succ_eq_append_getElem hk] at hu
    rcases List.mem_append.1 hu with hu | hu
    · obtain ⟨v, hv, hn⟩ := d.to u hu
      exact ⟨v, List.mem_append_left _ hv, hn.mono hle⟩
    · rw [List.mem_singleton.1 hu, hxe]
      exact ⟨y, List.mem_append_right _ (List.mem_singleton.2 rfl), n⟩
structure AllOK (h : HistV) (out : List HeldV) : Prop where
  cover : ∀ c ∈ h.copies.els, ∀ s ∈ c.zone.sets.els, ∃ y ∈ out, y.zone = c.zone.apex ∧ y.signed.c = s.c ∧ ∀ t, c.frm ≤ t → t < c.til → hasAny y.fresh.els t = true
  each : ∀ y ∈ out, HeldOf h y
  spans : ∀ y ∈ out, NormS (y.fresh.els.map (growC y.signed.c h.drift)) y.spans.els
  len : out.length ≤ 2000
theorem allOK {h : HistV} {zs : List Bytes} {H0 H : Hp} {l out : List HeldV} (g : Gath h zs H0 l) (hz : ∀ c ∈ h.copies.els, c.zone.apex ∈ zs) (d : Used h H l out l.length) (hl : l.length ≤ 2000) : AllOK h out := by
  have hdt : l.take l.length = l := List.take_length
  refine ⟨fun c hc s hs => ?_, fun y hy => ?_, fun y hy => ?_, by rw [d.len]; exact hl⟩
  · obtain ⟨x, hx, h1, h2, h3⟩ := g.cover c hc (hz c hc) s hs
    obtain ⟨y, hy, u⟩ := d.to x (by rw [hdt]; exact hx)
    exact ⟨y, hy, by rw [u.zone, h1], by rw [u.signed, h2], fun t h4 h5 => by rw [u.fresh]; exact h3 t h4 h5⟩
  · obtain ⟨x, hx, u⟩ := d.from y hy
    have := g.each x hx
    exact ⟨by rw [u.zone, u.signed]; exact this.src, by rw [u.fresh]; exact this.ends, by rw [u.fresh]; exact this.full, by rw [u.fresh]; exact this.flen⟩
  · obtain ⟨x, hx, u⟩ := d.from y hy
    rw [u.fresh, u.signed]; exact u.spans
theorem zoned_mid {z : ZoneV} (hz : ZonedR z.c) {s : Signed} (hs : s ∈ z.sets.els) : MidS s.c := by
  have hm : s.c ∈ z.c.sets := List.mem_map.2 ⟨s, hs, rfl⟩
  obtain ⟨i, hi, he⟩ := List.mem_iff_getElem.1 hm
  have h1 := (hz.one.each i hi).1
  have h2 := (hz.five i hi).1
  rw [he] at h1 h2
  unfold setOK at h1
  unfold sigsForm at h2
  simp only [Bool.and_eq_true, decide_eq_true_eq, List.all_eq_true] at h1 h2
  refine ⟨h1.1.1.1.1.1.2, fun g hg => ?_⟩
  have h3 := h2.1.2 g hg
  unfold sigForm at h3
  simp only [Bool.and_eq_true, decide_eq_true_eq] at h3
  omega
end Go.Proofs.YtepljgpikfeklaaGreatDoor
