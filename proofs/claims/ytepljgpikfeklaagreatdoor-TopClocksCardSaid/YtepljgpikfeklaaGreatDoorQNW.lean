import Derived.Test.YtepljgpikfeklaaGreatDoorQUF
import Derived.Test.YtepljgpikfeklaaGreatDoorQNQ
import Derived.Test.YtepljgpikfeklaaGreatDoorQNP
import Derived.Test.YtepljgpikfeklaaGreatDoorQZA
import Derived.Test.YtepljgpikfeklaaGreatDoorQWB
import Derived.Test.YtepljgpikfeklaaGreatDoorQData
import Derived.Test.YtepljgpikfeklaaGreatDoorQTMap
import Derived.Test.YtepljgpikfeklaaGreatDoorQEngC
import Derived.Test.YtepljgpikfeklaaGreatDoorQNA
namespace Go.Proofs.YtepljgpikfeklaaGreatDoor
set_option linter.unusedVariables false
set_option linter.unusedSimpArgs false
open Go Go.RowKit
open Enc (enc)
set_option maxRecDepth 20000
theorem c_r7Anchor {H : Hp} {w : World} (hs : Sat H w) : Calls Tryz.prog 38 #[] w (RetF w H (fun p : Hp × RSet => p.2.c = ⟨[46], 6, 0, [⟨[], 1, 1⟩]⟩ ∧ Enc.good p.1 p.2) (fun p => .agg (enc p.2).toArray) (fun p => p.1)) := by
  refine T.enter (vs := []) (H := H) Tryz.func38 rfl rfl rfl hs ?_
  repeat (any_goals (first | refine T.seq ?_ | refine T.region ?_ | refine TL.nil ?_ | refine N.next ?_ | refine T.ret ?_ | (apply TL.x; rfl; rfl; (apply X.alloc (d := 0); rfl; rfl; rfl); intro b0 _) | (apply TL.val; rfl; rfl; (apply V.build; (iterate 6 rfl))) | (apply TL.x; rfl; rfl; (apply X.buildSlice1 (d := 2); (iterate 8 rfl)); intro b2 _; apply TL.frzBlk 0 (α := Datum) (els := [(⟨[], 1, 1⟩ : Datum)]) (m := 1) rfl rfl rfl (by decide) (by intro x hx; rw [List.mem_singleton.1 hx]; exact ⟨show LenOk ([] : Bytes) by decide, show I64 1 by decide, show I64 1 by decide⟩); intro H1 g2 hle1) | (apply TL.x; rfl; rfl; (apply X.storeTo 0 (enc (⟨[46], 6, 0, ⟨some ⟨b2, 0, none⟩, 1, 1, [⟨[], 1, 1⟩]⟩⟩ : RSet)); (iterate 10 rfl)); intro _ _)))
  exact N.ret1 rfl (by (exact rvx)) fun w1 hst => ⟨(H1, ⟨[46], 6, 0, ⟨some ⟨b2, 0, none⟩, 1, 1, [⟨[], 1, 1⟩]⟩⟩), ⟨rfl, ⟨show LenOk ([46] : Bytes) by decide, show I64 6 by decide, show I64 0 by decide, g2⟩⟩, rfl, hst.fresh⟩
structure PastOK (h : HistV) : Prop where
  hosts : h.hosts.els = [⟨[97, 46, 110, 115], 1, 0⟩]
  copies : ∃ z : ZoneV, h.copies.els = [⟨0, 0, 20, z⟩] ∧ z.c = r7zone 1 [7]
  anchor : h.anchor.c = ⟨[46], 6, 0, [⟨[], 1, 1⟩]⟩
  hints : h.hints.els = [1]
  drift : h.drift = 2
  fin : h.fin = 50
theorem good_sing {α : Type} [Enc α] {H : Hp} {x : α} (h : Enc.good H x) : ∀ y ∈ [x], Enc.good H y := fun y hy => by rw [List.mem_singleton.1 hy]; exact h
set_option maxHeartbeats 4000000 in
theorem c_r7Past {H : Hp} {w : World} (hs : Sat H w) : Calls Tryz.prog 13 #[] w (RetF w H (fun p : Hp × HistV => PastOK p.2 ∧ Enc.good p.1 p.2) (fun p => .agg (enc p.2).toArray) (fun p => p.1)) := by
  refine T.enter (vs := []) (H := H) Tryz.func13 rfl rfl rfl hs ?_
  repeat (any_goals (first | refine T.seq ?_ | refine T.region ?_ | refine TL.nil ?_ | refine N.next ?_ | refine T.ret ?_ | (apply TL.x; rfl; rfl; (apply X.alloc (d := 0); rfl; rfl; rfl); intro b0 _) | (apply TL.x; rfl; rfl; (apply X.buildSlice1 (d := 2); (iterate 8 rfl)); intro b2 _; apply TL.frzBlk 0 (α := HostV) (els := [(⟨[97, 46, 110, 115], 1, 0⟩ : HostV)]) (m := 1) rfl rfl rfl (by decide) (by refine good_sing ?_; exact ⟨show LenOk ([97, 46, 110, 115] : Bytes) by decide, show I64 1 by decide, show I64 0 by decide⟩); intro H1 g2 hle1) | (apply TL.x; rfl; rfl; (apply X.buildSlice1 (d := 3); (iterate 8 rfl)); intro b3 _; apply TL.frzBlk 0 (α := Int) (els := [(7 : Int)]) (m := 1) rfl rfl rfl (by decide) (by refine good_sing ?_; exact (show I64 7 by decide)); intro H2 g3 hle2; have g2 := g2.mono hle2) | (apply TL.x; rfl; rfl; (apply X.callFE (f := 14) [intV 1, (⟨some ⟨b3, 0, none⟩, 1, 1, [7]⟩ : Slc Int).v] Tryz.call14; rfl; rfl; rfl; exact (fun _ hs => c_r7Zone 1 ⟨some ⟨b3, 0, none⟩, 1, 1, [7]⟩ (by decide) (show (1 : Nat) ≤ 100 by decide) hs.sat g3)); rintro ⟨Hz, z⟩ ⟨⟨hz1, hz2⟩, hz3⟩; have g2 := g2.mono hz3) | (apply TL.x; rfl; rfl; (apply X.buildSlice1 (d := 6); (iterate 8 rfl)); intro b6 _; apply TL.frzBlk 0 (α := CopyV) (els := [(⟨0, 0, 20, z⟩ : CopyV)]) (m := 1) rfl rfl rfl (by decide) (by refine good_sing ?_; exact ⟨show I64 0 by decide, show I64 0 by decide, show I64 20 by decide, hz2⟩); intro H3 g6 hle3; have g2 := g2.mono hle3) | (apply TL.x; rfl; rfl; (apply X.callFE (f := 38) [] Tryz.call38; rfl; rfl; rfl; exact (fun _ hs => c_r7Anchor hs.sat)); rintro ⟨Ha, an⟩ ⟨⟨ha1, ha2⟩, ha3⟩; have g2 := g2.mono ha3; have g6 := g6.mono ha3) | (apply TL.x; rfl; rfl; (apply X.buildSlice1 (d := 8); (iterate 8 rfl)); intro b8 _; apply TL.frzBlk 0 (α := Int) (els := [(1 : Int)]) (m := 1) rfl rfl rfl (by decide) (by refine good_sing ?_; exact (show I64 1 by decide)); intro H4 g8 hle4; have g2 := g2.mono hle4; have g6 := g6.mono hle4; have ha2 := Enc.mono hle4 ha2) | (apply TL.x; rfl; rfl; (apply X.storeTo 0 (enc (⟨⟨some ⟨b2, 0, none⟩, 1, 1, [⟨[97, 46, 110, 115], 1, 0⟩]⟩, ⟨some ⟨b6, 0, none⟩, 1, 1, [⟨0, 0, 20, z⟩]⟩, an, ⟨some ⟨b8, 0, none⟩, 1, 1, [1]⟩, 2, 50⟩ : HistV)); (iterate 10 rfl)); intro _ _) | (apply TL.val; rfl; rfl; (apply V.build; (iterate 6 rfl)))))
  exact N.ret1 rfl (by (exact rvx)) fun w1 hst => ⟨(H4, ⟨⟨some ⟨b2, 0, none⟩, 1, 1, [⟨[97, 46, 110, 115], 1, 0⟩]⟩, ⟨some ⟨b6, 0, none⟩, 1, 1, [⟨0, 0, 20, z⟩]⟩, an, ⟨some ⟨b8, 0, none⟩, 1, 1, [1]⟩, 2, 50⟩), ⟨⟨rfl, ⟨z, rfl, hz1⟩, ha1, rfl, rfl, rfl⟩, ⟨g2, g6, ha2, g8, show I64 2 by decide, show I64 50 by decide⟩⟩, rfl, hst.fresh⟩
end Go.Proofs.YtepljgpikfeklaaGreatDoor
namespace Go.Proofs.YtepljgpikfeklaaGreatDoor
set_option linter.unusedVariables false
set_option linter.unusedSimpArgs false
open Go Go.RowKit
set_option maxRecDepth 20000
theorem zoned3 {apex : Bytes} {a b c : SignedC} (h1 : nameOK apex = true) (h2 : starN apex = false) (ha : setOK a.set = true ∧ inN a.set.name apex = true) (hb : setOK b.set = true ∧ inN b.set.name apex = true) (hc : setOK c.set = true ∧ inN c.set.name apex = true) (hab : ordSet a.set b.set < 0) (hbc : ordSet b.set c.set < 0)
    (h3 : ∃ s ∈ [a, b, c], s.set.name = apex ∧ s.set.typ = 4) (h4 : ∃ s ∈ [a, b, c], s.set.name = apex ∧ s.set.typ = 2) (h5 : ∀ s ∈ [a, b, c], placedOK s.set.typ (decide (s.set.name = apex)) = true) (h6 : b.set.typ ≠ 3 ∧ a.set.typ ≠ 3) (h7 : c.set.typ ≠ 3 ∧ b.set.typ ≠ 3)
    (h8 : behRZ ⟨apex, [a, b, c]⟩ = [none, none, none]) (h9 : a.set.typ ≠ 6 ∧ b.set.typ ≠ 6 ∧ c.set.typ ≠ 6) (h10 : sigsForm a.sigs apex = true ∧ sigsForm b.sigs apex = true ∧ sigsForm c.sigs apex = true) : ZonedR ⟨apex, [a, b, c]⟩ where
  one := ⟨h1, h2, show (3 : Nat) ≤ 20000 by decide, fun i h => by
    have h : i < 3 := h
    rcases i with _ | _ | _ | i
    · exact ⟨ha.1, ha.2, fun h0 => absurd h0 (Nat.lt_irrefl _)⟩
    · exact ⟨hb.1, hb.2, fun _ => hab⟩
    · exact ⟨hc.1, hc.2, fun _ => hbc⟩
    · omega⟩
  two := ⟨h3, h4, h5⟩
  three := fun i h => by
    have h : i + 1 < 3 := h
    rcases i with _ | _ | i
    · exact fun _ => ⟨h6.1, fun h => absurd h h6.2⟩
    · exact fun _ => ⟨h7.1, fun h => absurd h h7.2⟩
    · omega
  four := fun i h => by
    rw [h8]
    have h : i < 3 := h
    rcases i with _ | _ | _ | i
    · exact ⟨fun c hc => (by cases hc), fun hc => (by cases hc), fun hc => absurd hc h9.1⟩
    · exact ⟨fun c hc => (by cases hc), fun hc => (by cases hc), fun hc => absurd hc h9.2.1⟩
    · exact ⟨fun c hc => (by cases hc), fun hc => (by cases hc), fun hc => absurd hc h9.2.2⟩
    · omega
  five := fun i h => by
    rw [h8]
    have h : i < 3 := h
    rcases i with _ | _ | _ | i
    · exact ⟨h10.1, fun hc => absurd rfl hc⟩
    · exact ⟨h10.2.1, fun hc => absurd rfl hc⟩
    · exact ⟨h10.2.2, fun hc => absurd rfl hc⟩
    · omega
theorem r7zoned : ZonedR (r7zone 1 [7]) :=
  zoned3 (a := ⟨⟨[120], 2, 0, [⟨[97, 46, 110, 115], 0, 0⟩]⟩, []⟩) (b := ⟨⟨[120], 4, 0, [⟨[], 1, 0⟩]⟩, []⟩) (c := ⟨⟨[119, 46, 120], 1, 0, [⟨[], 7, 0⟩]⟩, []⟩) (by decide +kernel) (by decide +kernel) (by decide +kernel) (by decide +kernel) (by decide +kernel) (by decide +kernel) (by decide +kernel) (by decide +kernel) (by decide +kernel) (by decide +kernel) (by decide +kernel) (by decide +kernel) (by decide +kernel) (by decide +kernel) (by decide +kernel)
theorem past_ok {h : HistV} (p : PastOK h) {H : Hp} (hg : Enc.good H h) : HistOK h ∧ FewH h := by
  obtain ⟨z, hc, hz⟩ := p.copies
  have hzl : z.sets.len = 3 := by
    have h1 := hg.2.1.els _ (by rw [hc]; exact List.mem_singleton.2 rfl)
    have h2 : z.sets.els.length = z.sets.len := h1.2.2.2.2.len
    have h4 : (z.c).sets.length = z.sets.els.length := List.length_map ..
    have h5 : (r7zone 1 [7]).sets.length = 3 := by decide +kernel
    have h3 : z.c.sets.length = (r7zone 1 [7]).sets.length := congrArg (fun z : ZoneC => z.sets.length) hz
    omega
  have hcl : h.copies.len = 1 := by have := hg.2.1.len; rw [hc] at this; exact this.symm
  have p1 := p.hosts
  have p2 := p.anchor
  have p3 := p.hints
  have p4 := p.drift
  have p5 := p.fin
  refine ⟨⟨⟨by rw [p1]; decide, ?_⟩, ⟨by rw [p2]; decide +kernel, congrArg SetC.typ p2, congrArg SetC.name p2, by rw [p3]; decide, by rw [p3]; decide, by rw [p3]; decide⟩, by rw [p5]; decide, by rw [p4]; decide, by rw [hc]; exact (show (1 : Nat) ≤ 4000 by decide), ?_, ?_⟩, ⟨by omega, fun c hm => ?_⟩⟩
  · rw [p1]
    intro i hi _
    have hi : i < 1 := hi
    have : i = 0 := by omega
    subst this
    exact ⟨⟨show nameOK ([97, 46, 110, 115] : Bytes) = true by decide +kernel, show starN ([97, 46, 110, 115] : Bytes) = false by decide +kernel, show (1 : Int) ≤ 1 ∧ (1 : Int) ≤ 1000000 by decide, show (0 : Int) ≤ 0 ∧ (0 : Int) ≤ 31 by decide⟩, fun j hj => absurd hj (Nat.not_lt_zero _)⟩
  · intro i hi _
    have hi1 : i < 1 := by rw [hc] at hi; exact hi
    have : i = 0 := by omega
    subst this
    have e : h.copies.els[0]'hi = ⟨0, 0, 20, z⟩ := by rw [List.getElem_of_eq hc hi]; rfl
    rw [e, p1, p5]
    exact ⟨⟨show (0 : Int) ≤ 0 ∧ (0 : Int) < (1 : Nat) by decide, show (0 : Int) ≤ 0 by decide, show (0 : Int) < 20 by decide, show (20 : Int) ≤ 50 by decide, by show ZonedR z.c; rw [hz]; exact r7zoned⟩, fun j hj => absurd hj (Nat.not_lt_zero _)⟩
  · rw [hc]
    have e : apexesOf [(⟨0, 0, 20, z⟩ : CopyV)] = [[120]] := by
      show [z.apex] = _
      have := congrArg ZoneC.apex hz
      exact congrArg (fun a => [a]) this
    rw [e]
    decide +kernel
  · rw [hc] at hm
    rw [List.mem_singleton.1 hm]
    show z.sets.len ≤ 100
    omega
end Go.Proofs.YtepljgpikfeklaaGreatDoor
namespace Go.Proofs.YtepljgpikfeklaaGreatDoor
set_option linter.unusedVariables false
set_option linter.unusedSimpArgs false
open Go Go.RowKit
set_option maxRecDepth 20000
def r7w (a : Int) : SignedC := ⟨⟨[119, 46, 120], 1, 0, [⟨[], a, 0⟩]⟩, []⟩
theorem r7zone_sets : (r7zone 1 [7]).sets = [⟨⟨[120], 2, 0, [⟨[97, 46, 110, 115], 0, 0⟩]⟩, []⟩, ⟨⟨[120], 4, 0, [⟨[], 1, 0⟩]⟩, []⟩, r7w 7] := by decide +kernel
theorem r7w_valid (a : Int) (h1 : setOK (r7w a).set = true) : ValidS (r7w a) := ⟨h1, by show (0 : Nat) ≤ 6; decide, fun g hg => (by cases hg), fun g hg => (by cases hg)⟩
theorem r7w_ok7 : setOK (r7w 7).set = true := by decide +kernel
theorem r7w_ok8 : setOK (r7w 8).set = true := by decide +kernel
section
variable {h : HistV} {all : List HeldV}
theorem past_c (p : PastOK h) {c : CopyV} (hc : c ∈ h.copies.els) : c.frm = 0 ∧ c.til = 20 ∧ c.zone.c = r7zone 1 [7] := by
  obtain ⟨z, e, hz⟩ := p.copies
  rw [e] at hc
  rw [List.mem_singleton.1 hc]
  exact ⟨rfl, rfl, hz⟩
theorem past_src (p : PastOK h) (a : AllOK h all) {y : HeldV} (hy : y ∈ all) : y.zone = [120] ∧ y.signed.c ∈ (r7zone 1 [7]).sets := by
  obtain ⟨c, hc, e1, s, hs, e2⟩ := (a.each y hy).src
  obtain ⟨_, _, hz⟩ := past_c p hc
  refine ⟨by rw [e1]; exact congrArg ZoneC.apex hz, ?_⟩
  rw [e2, ← hz]
  exact List.mem_map.2 ⟨s, hs, rfl⟩
theorem past_f (p : PastOK h) (a : AllOK h all) {y : HeldV} (hy : y ∈ all) {f : SpanV} (hf : f ∈ y.fresh.els) : f = ⟨0, 20⟩ := by
  obtain ⟨⟨c, hc, e1⟩, d, hd, e2⟩ := (a.each y hy).ends f hf
  obtain ⟨h1, _, _⟩ := past_c p hc
  obtain ⟨_, h2, _⟩ := past_c p hd
  obtain ⟨x, z⟩ := f
  simp only at e1 e2
  rw [e1, e2, h1, h2]
theorem past_g {s : SignedC} (hs : s ∈ (r7zone 1 [7]).sets) : growC s 2 ⟨0, 20⟩ = ⟨0, 24⟩ := by
  rw [r7zone_sets] at hs
  rcases List.mem_cons.1 hs with rfl | hs
  · rfl
  · rcases List.mem_cons.1 hs with rfl | hs
    · rfl
    · rw [List.mem_singleton.1 hs]; rfl
theorem past_has (p : PastOK h) (a : AllOK h all) {y : HeldV} (hy : y ∈ all) (t : Int) : hasAny y.spans.els t = true ↔ y.fresh.els ≠ [] ∧ 0 ≤ t ∧ t < 24 := by
  rw [(a.spans y hy).has, hasAny_iff]
  have hs := (past_src p a hy).2
  constructor
  · rintro ⟨g, hg, h1, h2⟩
    obtain ⟨f, hf, rfl⟩ := List.mem_map.1 hg
    rw [past_f p a hy hf, p.drift, past_g hs] at h1 h2
    exact ⟨fun e => (by rw [e] at hf; cases hf), h1, h2⟩
  · rintro ⟨hne, h1, h2⟩
    obtain ⟨f, hf⟩ := List.exists_mem_of_ne_nil _ hne
    refine ⟨_, List.mem_map.2 ⟨f, hf, rfl⟩, ?_⟩
    rw [past_f p a hy hf, p.drift, past_g hs]
    exact ⟨h1, h2⟩
theorem past_one (p : PastOK h) (a : AllOK h all) {s : SignedC} (hs : s ∈ (r7zone 1 [7]).sets) : ∃ y ∈ all, y.zone = [120] ∧ y.signed.c = s ∧ y.fresh.els ≠ [] := by
  obtain ⟨z, e, hz⟩ := p.copies
  have hc : (⟨0, 0, 20, z⟩ : CopyV) ∈ h.copies.els := by rw [e]; exact List.mem_singleton.2 rfl
  rw [← hz] at hs
  obtain ⟨sv, hsv, hse⟩ := List.mem_map.1 hs
  obtain ⟨y, hy, h1, h2, h3⟩ := a.cover _ hc sv hsv
  refine ⟨y, hy, h1.trans (congrArg ZoneC.apex hz), h2.trans hse, fun hn => ?_⟩
  have := h3 0 (Int.le_refl _) (by show (0 : Int) < 20; decide)
  rw [hn] at this
  cases this
theorem past_none (p : PastOK h) (a : AllOK h all) : all.filter (fun x => hasAny x.spans.els 24) = [] := by
  rw [List.filter_eq_nil_iff]
  intro y hy
  rw [past_has p a hy]
  rintro ⟨_, _, h⟩
  exact absurd h (by decide)
def r7q : Question := ⟨[119, 46, 120], 1⟩
theorem w_in : r7w 7 ∈ (r7zone 1 [7]).sets := by rw [r7zone_sets]; exact List.mem_cons_of_mem _ (List.mem_cons_of_mem _ (List.mem_singleton.2 rfl))
theorem ask_w {s : SignedC} (hs : s ∈ (r7zone 1 [7]).sets) (h : s.set.name = [119, 46, 120]) : s = r7w 7 := by
  rw [r7zone_sets] at hs
  rcases List.mem_cons.1 hs with rfl | hs
  · exact absurd h (by decide)
  · rcases List.mem_cons.1 hs with rfl | hs
    · exact absurd h (by decide)
    · exact List.mem_singleton.1 hs
end
theorem nodup_one {α : Type} {l : List α} {a : α} (hn : l.Nodup) (h : ∀ x ∈ l, x = a) : l.length ≤ 1 := by
  cases l with
  | nil => exact Nat.zero_le _
  | cons x t =>
    cases t with
    | nil => exact Nat.le_refl _
    | cons y u =>
      have h1 := h x (List.mem_cons_self ..)
      have h2 := h y (List.mem_cons_of_mem _ (List.mem_cons_self ..))
      exact absurd (h1.trans h2.symm) (fun e => (List.nodup_cons.1 hn).1 (e ▸ List.mem_cons_self ..))
theorem poss_23 {h : HistV} (p : PastOK h) {all : Slc HeldV} (a : AllOK h all.els) {out : List Signed} (o : PossTo (atZ all 23) r7q (atZ all 23).length out) : out.length = 1 := by
  have h1 : (textsS out).length ≤ 1 := nodup_one (a := textC (r7w 7)) o.nodup fun t ht => by
    obtain ⟨y, hy, rfl⟩ := List.mem_map.1 ht
    obtain ⟨x, hx, hq, rfl⟩ := o.each y hy
    have hxa := (List.mem_filter.1 hx).1
    have := ask_w (past_src p a hxa).2 hq.1
    rw [this]
  have h2 : (textsS out).length = out.length := List.length_map ..
  obtain ⟨y, hy, hz, hs, hf⟩ := past_one p a w_in
  have hyat : y ∈ atZ all 23 := List.mem_filter.2 ⟨hy, (past_has p a hy 23).2 ⟨hf, by decide, by decide⟩⟩
  have hc := o.cover y (by rw [List.take_length]; exact hyat) ⟨congrArg (fun s : SignedC => s.set.name) hs, congrArg (fun s : SignedC => s.set.typ) hs⟩
  have := List.length_pos_of_mem hc
  omega
theorem poss_24 {h : HistV} (p : PastOK h) {all : Slc HeldV} (a : AllOK h all.els) {out : List Signed} (o : PossTo (atZ all 24) r7q (atZ all 24).length out) : out.length = 0 := by
  have h1 : atZ all 24 = [] := past_none p a
  have := o.len
  rw [h1] at this
  exact Nat.le_zero.1 this
theorem allow_7 {h : HistV} (p : PastOK h) {all : Slc HeldV} (a : AllOK h all.els) {e : Entry} (he : e.c = ⟨r7w 7, [120], 20⟩) : entryBy (atZ all 19) 19 e := by
  obtain ⟨y, hy, hz, hs, hf⟩ := past_one p a w_in
  have hyat : y ∈ atZ all 19 := List.mem_filter.2 ⟨hy, (past_has p a hy 19).2 ⟨hf, by decide, by decide⟩⟩
  have h1 : e.signed.c = r7w 7 := congrArg EntryC.signed he
  have h2 : e.zone = [120] := congrArg EntryC.zone he
  exact .inr (.inr ⟨y, hyat, by rw [h2, hz], by rw [h1, hs]⟩)
theorem allow_8 {h : HistV} (p : PastOK h) {all : Slc HeldV} (a : AllOK h all.els) {e : Entry} {H : Hp} (hg : Enc.good H e) (he : e.c = ⟨r7w 8, [120], 20⟩) : ¬ entryBy (atZ all 19) 19 e := by
  have h1 : e.signed.c = r7w 8 := congrArg EntryC.signed he
  have h3 : e.til = 20 := congrArg EntryC.til he
  rintro (hd | ht | ⟨y, hy, _, e2⟩)
  · have h4 : e.signed.set.data.els = (r7w 8).set.data := congrArg (fun s : SignedC => s.set.data) h1
    have h5 := hg.1.1.2.2.2.len
    rw [h4, hd] at h5
    exact absurd h5 (by decide)
  · rw [h3] at ht
    exact absurd ht (by decide)
  · have hya := (List.mem_filter.1 hy).1
    have hin := (past_src p a hya).2
    rw [h1] at e2
    have hv : ValidS y.signed.c := by
      have hin' := hin
      rw [r7zone_sets] at hin'
      rcases List.mem_cons.1 hin' with e | hin'
      · rw [e]; exact ⟨by decide +kernel, by show (0 : Nat) ≤ 6; decide, fun g hg => (by cases hg), fun g hg => (by cases hg)⟩
      · rcases List.mem_cons.1 hin' with e | hin'
        · rw [e]; exact ⟨by decide +kernel, by show (0 : Nat) ≤ 6; decide, fun g hg => (by cases hg), fun g hg => (by cases hg)⟩
        · rw [List.mem_singleton.1 hin']; exact r7w_valid 7 r7w_ok7
    have := text_inj (r7w_valid 8 r7w_ok8) hv e2
    rw [← this, r7zone_sets] at hin
    exact absurd hin (by decide +kernel)
theorem put_7 : putC [] (r7w 7) [120] 19 = ([⟨r7w 7, [120], 20⟩], 0) := by decide +kernel
theorem put_8 : putC [] (r7w 8) [120] 19 = ([⟨r7w 8, [120], 20⟩], 0) := by decide +kernel
theorem cache_7 : cacheOK [⟨r7w 7, [120], 20⟩] = true := by decide +kernel
theorem cache_8 : cacheOK [⟨r7w 8, [120], 20⟩] = true := by decide +kernel
theorem question_7 : questionOK r7q = true := by decide +kernel
end Go.Proofs.YtepljgpikfeklaaGreatDoor
namespace Go.Proofs.YtepljgpikfeklaaGreatDoor
set_option linter.unusedVariables false
set_option linter.unusedSimpArgs false
open Go Go.RowKit
open Enc (enc)
set_option maxRecDepth 20000
def addrS (name : Bytes) (life n : Int) : SignedC := ⟨⟨name, 1, life, [⟨[], n, 0⟩]⟩, []⟩
end Go.Proofs.YtepljgpikfeklaaGreatDoor
namespace Go.Proofs.YtepljgpikfeklaaGreatDoor
set_option linter.unusedVariables false
set_option linter.unusedSimpArgs false
open Go Go.RowKit
open Enc (enc)
set_option maxRecDepth 20000
def S9 : SignedC := addrS [97, 46, 120] 9 2
def D1 : EntryC := ⟨⟨⟨[98, 46, 120], 1, 7, []⟩, []⟩, [120], 17⟩
def E9 : EntryC := ⟨S9, [120], 21⟩
theorem hvalid : cacheOK [E9, D1] = true := by decide +kernel
theorem hnil : cacheOK [entryNil] = false := by decide +kernel
theorem cache_count {c : Cache} {l : List EntryC} {k : Nat} {H : Hp} (h : c.c = l) (hk : l.length = k) (hg : Enc.good H c) : c.list.len = k := by
  have h1 : c.list.els.length = c.list.len := Slc.Good.len hg
  have h2 : c.c.length = c.list.els.length := List.length_map _
  rw [← h1, ← h2, h, hk]
theorem c_PutL (c : Cache) (s : Signed) (zone : Bytes) (now : Int) {r : List EntryC} {e : Int} {k : Nat} (h : putC c.c s.c zone now = (r, e)) (hk : r.length = k) {H : Hp} {w : World} (hs : Sat H w) (hR : Rules H) (hg : Enc.good H c) (hsg : Enc.good H s) (hz : LenOk zone) (hnow : I64 now) : Calls Tryz.prog 9 #[.agg (enc c).toArray, .agg (enc s).toArray, strV zone, intV now] w (RetF w H (fun g : Hp × Cache => g.2.c = r ∧ Enc.good g.1 g.2 ∧ g.2.list.len = k) (fun g => .tuple #[.agg (enc g.2).toArray, intV e]) (fun g => g.1)) := by
  have := c_Put c s zone now H w hs hR hg hsg hz hnow
  rw [h] at this
  refine this.mono ?_
  rintro e w' ⟨q, ⟨h1, h2⟩, h3, h4⟩
  exact ⟨q, ⟨h1, h2, cache_count h1 hk h2⟩, h3, h4⟩
theorem c_KnownL (c : Cache) (now : Int) {r : List SignedC} {e : Int} (h : knownC c.c now = (r, e)) {H : Hp} {w : World} (hs : Sat H w) (hR : Rules H) (hg : Enc.good H c) (hnow : I64 now) : Calls Tryz.prog 10 #[.agg (enc c).toArray, intV now] w (RetF w H (fun g : Hp × Slc Signed => g.2.els.map Signed.c = r ∧ g.2.Good g.1) (fun g => .tuple #[g.2.v, intV e]) (fun g => g.1)) := by
  have := c_Known c now H w hs hR hg hnow
  rw [h] at this
  exact this
end Go.Proofs.YtepljgpikfeklaaGreatDoor
