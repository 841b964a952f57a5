import Derived.Test.YthabgdbhgcgemaaGreatDoorQBO
import Derived.Test.YthabgdbhgcgemaaGreatDoorQBC
namespace Go.Proofs.YthabgdbhgcgemaaGreatDoor
set_option linter.unusedVariables false
set_option linter.unusedSimpArgs false
open Go Go.RowKit
set_option maxRecDepth 20000
theorem zoned2 {apex : Bytes} {a b : SignedC} (h1 : nameOK apex = true) (h2 : starN apex = false) (ha : setOK a.set = true ∧ inN a.set.name apex = true) (hb : setOK b.set = true ∧ inN b.set.name apex = true) (hab : ordSet a.set b.set < 0)
    (h3 : ∃ s ∈ [a, b], s.set.name = apex ∧ s.set.typ = 4) (h4 : ∃ s ∈ [a, b], s.set.name = apex ∧ s.set.typ = 2) (h5 : ∀ s ∈ [a, b], placedOK s.set.typ (decide (s.set.name = apex)) = true) (h6 : b.set.typ ≠ 3 ∧ a.set.typ ≠ 3)
    (h8 : behRZ ⟨apex, [a, b]⟩ = [none, none]) (h9 : a.set.typ ≠ 6 ∧ b.set.typ ≠ 6) (h10 : sigsForm a.sigs apex = true ∧ sigsForm b.sigs apex = true) : ZonedR ⟨apex, [a, b]⟩ where
  one := ⟨h1, h2, show (2 : Nat) ≤ 20000 by decide, fun i h => by
    have h : i < 2 := h
    rcases i with _ | _ | i
    · exact ⟨ha.1, ha.2, fun h0 => absurd h0 (Nat.lt_irrefl _)⟩
    · exact ⟨hb.1, hb.2, fun _ => hab⟩
    · omega⟩
  two := ⟨h3, h4, h5⟩
  three := fun i h => by
    have h : i + 1 < 2 := h
    rcases i with _ | i
    · exact fun _ => ⟨h6.1, fun h => absurd h h6.2⟩
    · omega
  four := fun i h => by
    rw [h8]
    have h : i < 2 := h
    rcases i with _ | _ | i
    · exact ⟨fun c hc => (by cases hc), fun hc => (by cases hc), fun hc => absurd hc h9.1⟩
    · exact ⟨fun c hc => (by cases hc), fun hc => (by cases hc), fun hc => absurd hc h9.2⟩
    · omega
  five := fun i h => by
    rw [h8]
    have h : i < 2 := h
    rcases i with _ | _ | i
    · exact ⟨h10.1, fun hc => absurd rfl hc⟩
    · exact ⟨h10.2, fun hc => absurd rfl hc⟩
    · omega
theorem zoned3 {apex : Bytes} {a b c : SignedC} (h1 : nameOK apex = true) (h2 : starN apex = false) (ha : setOK a.set = true ∧ inN a.set.name apex = true) (hb : setOK b.set = true ∧ inN b.set.name apex = true) (hc : setOK c.set = true ∧ inN c.set.name apex = true) (hab : ordSet a.set b.set < 0) (hbc : ordSet b.set c.set < 0)
    (h3 : ∃ s ∈ [a, b, c], s.set.name = apex ∧ s.set.typ = 4) (h4 : ∃ s ∈ [a, b, c], s.set.name = apex ∧ s.set.typ = 2) (h5 : ∀ s ∈ [a, b, c], placedOK s.set.typ (decide (s.set.name = apex)) = true) (h6 : b.set.typ ≠ 3 ∧ a.set.typ ≠ 3) (h7 : c.set.typ ≠ 3 ∧ b.set.typ ≠ 3)
    (h8 : behRZ ⟨apex, [a, b, c]⟩ = [none, none, none]) (h9 : a.set.typ ≠ 6 ∧ b.set.typ ≠ 6 ∧ c.set.typ ≠ 6) (h10 : sigsForm a.sigs apex = true ∧ sigsForm b.sigs apex = true ∧ sigsForm c.sigs apex = true) : ZonedR ⟨apex, [a, b, c]⟩ where
  one := ⟨h1, h2, show (3 : Nat) ≤ 20000 by decide, fun i h => by
    have h : i < 3 := h
    rcases i with _ | _ | _ | i
    · exact ⟨ha.1, ha.2, fun h0 => absurd h0 (Nat.lt_irrefl _)⟩
    · exact ⟨hb.1, hb.2, fun _ => hab⟩
    · exact ⟨hc.1, hc.2, fun _ => hbc⟩
    · omega⟩
  two := ⟨h3, h4, h5⟩
  three := fun i h => by
    have h : i + 1 < 3 := h
    rcases i with _ | _ | i
    · exact fun _ => ⟨h6.1, fun h => absurd h h6.2⟩
    · exact fun _ => ⟨h7.1, fun h => absurd h h7.2⟩
    · omega
  four := fun i h => by
    rw [h8]
    have h : i < 3 := h
    rcases i with _ | _ | _ | i
    · exact ⟨fun c hc => (by cases hc), fun hc => (by cases hc), fun hc => absurd hc h9.1⟩
    · exact ⟨fun c hc => (by cases hc), fun hc => (by cases hc), fun hc => absurd hc h9.2.1⟩
    · exact ⟨fun c hc => (by cases hc), fun hc => (by cases hc), fun hc => absurd hc h9.2.2⟩
    · omega
  five := fun i h => by
    rw [h8]
    have h : i < 3 := h
    rcases i with _ | _ | _ | i
    · exact ⟨h10.1, fun hc => absurd rfl hc⟩
    · exact ⟨h10.2.1, fun hc => absurd rfl hc⟩
    · exact ⟨h10.2.2, fun hc => absurd rfl hc⟩
    · omega
theorem r7z1 : ZonedR (r7zone 1 []) :=
  zoned2 (a := ⟨⟨[120], 2, 0, [⟨[97, 46, 110, 115], 0, 0⟩]⟩, []⟩) (b := ⟨⟨[120], 4, 0, [⟨[], 1, 0⟩]⟩, []⟩) (by decide +kernel) (by decide +kernel) (by decide +kernel) (by decide +kernel) (by decide +kernel) (by decide +kernel) (by decide +kernel) (by decide +kernel) (by decide +kernel) (by decide +kernel) (by decide +kernel) (by decide +kernel)
theorem r7z2 : ZonedR (r7zone 2 [7]) :=
  zoned3 (a := ⟨⟨[120], 2, 0, [⟨[97, 46, 110, 115], 0, 0⟩]⟩, []⟩) (b := ⟨⟨[120], 4, 0, [⟨[], 2, 0⟩]⟩, []⟩) (c := ⟨⟨[119, 46, 120], 1, 0, [⟨[], 7, 0⟩]⟩, []⟩) (by decide +kernel) (by decide +kernel) (by decide +kernel) (by decide +kernel) (by decide +kernel) (by decide +kernel) (by decide +kernel) (by decide +kernel) (by decide +kernel) (by decide +kernel) (by decide +kernel) (by decide +kernel) (by decide +kernel) (by decide +kernel) (by decide +kernel)
theorem sets_len {H : Hp} {z : ZoneV} {c : ZoneC} (hz : Enc.good H z) (h : z.c = c) : z.sets.len = c.sets.length := by
  subst h
  have h1 := hz.2.len
  have h2 : z.c.sets.length = z.sets.els.length := List.length_map ..
  omega
theorem r7vers {H : Hp} {z y : ZoneV} (hz : z.c = r7zone 1 []) (hy : y.c = r7zone 2 [7]) (gz : Enc.good H z) (gy : Enc.good H y) : VersOK [(⟨0, z⟩ : VersionV), (⟨10, y⟩ : VersionV)] 20 where
  n1 := by show 1 ≤ 2; decide
  n8 := by show 2 ≤ 8; decide
  fin1 := by decide
  fin2 := by decide
  at0 := fun v hv => by
    rcases List.mem_cons.1 hv with rfl | hv
    · exact (by decide : (0 : Int) ≤ 0 ∧ (0 : Int) < 20)
    · rw [List.mem_singleton.1 hv]; exact (by decide : (0 : Int) ≤ 10 ∧ (10 : Int) < 20)
  zone := fun v hv => by
    rcases List.mem_cons.1 hv with rfl | hv
    · exact hz ▸ r7z1
    · rw [List.mem_singleton.1 hv]; exact hy ▸ r7z2
  few := fun v hv => by
    rcases List.mem_cons.1 hv with rfl | hv
    · have : z.sets.len = 2 := (sets_len gz hz).trans (by decide +kernel)
      show z.sets.len ≤ 100; omega
    · rw [List.mem_singleton.1 hv]
      have : y.sets.len = 3 := (sets_len gy hy).trans (by decide +kernel)
      show y.sets.len ≤ 100; omega
  apex := fun v hv u hu => by
    have h1 : z.apex = [120] := congrArg ZoneC.apex hz
    have h2 : y.apex = [120] := congrArg ZoneC.apex hy
    have h3 : ∀ v ∈ [(⟨0, z⟩ : VersionV), (⟨10, y⟩ : VersionV)], v.zone.apex = [120] := fun v hv => by
      rcases List.mem_cons.1 hv with rfl | hv
      · exact h1
      · rw [List.mem_singleton.1 hv]; exact h2
    rw [h3 v hv, h3 u hu]
  step := fun i hi => by
    have hi : i + 1 < 2 := hi
    have : i = 0 := by omega
    subst this
    refine ⟨(by decide : (0 : Int) < 10), ?_⟩
    show beforeS (serialC z.c) (serialC y.c) = true
    rw [hz, hy]; decide +kernel
  apart := by
    show [serialC z.c, serialC y.c].Nodup
    rw [hz, hy]; decide +kernel
section
variable {H : Hp} {w : World}
set_option maxHeartbeats 16000000 in
theorem c_r7Spread (hs : Sat H w) (hR : Rules H) : Calls Tryz.prog 4 #[] w (Ret w (.bool true)) := by
  refine T.enter (vs := []) (H := H) Tryz.func4 rfl rfl rfl hs ?_
  repeat (any_goals (first | (apply T.seqU 3; rfl) | refine T.region ?_ | refine TL.nil ?_ | refine N.next ?_ | (apply TL.x; rfl; rfl; (apply X.callFE (d := 5) (f := 11) [intV 1, .slice none 0 0] Tryz.call11; rfl; rfl; rfl; exact (fun _ hs => c_r7Zone 1 (Slc.nil Int) (by unfold I64; decide) (by decide) hs.sat Slc.nil_good)); rintro ⟨H1, z5⟩ ⟨⟨c5, e5⟩, hle⟩; dsimp only at c5 e5 hle ⊢; have hR := Rules.mono hle hR; (try have e5 := Enc.mono hle e5); (try have e8 := Enc.mono hle e8); (try have e20 := Enc.mono hle e20); (try have e23 := Enc.mono hle e23); (try have e25 := Enc.mono hle e25); (try have e28 := Enc.mono hle e28); (try have gl := gl.mono hle); (try have gp := gp.mono hle); (try have hcg := hcg.mono hle); skip) | (apply TL.x; rfl; rfl; (apply X.buildSlice1 (d := 7); (iterate 8 rfl)); intro b7 _; apply TL.frzBlk 0 (α := Int) (els := [(7 : Int)]) (m := 1) rfl rfl rfl (by decide) (by intro x hx; rw [List.mem_singleton.1 hx]; exact (show I64 7 by unfold I64; decide)); intro H1 g7 hle; have hR := Rules.mono hle hR; (try have e5 := Enc.mono hle e5); (try have e8 := Enc.mono hle e8); (try have e20 := Enc.mono hle e20); (try have e23 := Enc.mono hle e23); (try have e25 := Enc.mono hle e25); (try have e28 := Enc.mono hle e28); (try have gl := gl.mono hle); (try have gp := gp.mono hle); (try have hcg := hcg.mono hle); skip) | (apply TL.x; rfl; rfl; (apply X.callFE (d := 8) (f := 11) [intV 2, .slice (some ⟨b7, 0, none⟩) 1 1] Tryz.call11; rfl; rfl; rfl; exact (fun _ hs => c_r7Zone 2 (⟨some ⟨b7, 0, none⟩, 1, 1, [7]⟩ : Slc Int) (by unfold I64; decide) (by show 1 ≤ 100; decide) hs.sat g7)); rintro ⟨H1, z8⟩ ⟨⟨c8, e8⟩, hle⟩; dsimp only at c8 e8 hle ⊢; have hR := Rules.mono hle hR; (try have e5 := Enc.mono hle e5); (try have e8 := Enc.mono hle e8); (try have e20 := Enc.mono hle e20); (try have e23 := Enc.mono hle e23); (try have e25 := Enc.mono hle e25); (try have e28 := Enc.mono hle e28); (try have gl := gl.mono hle); (try have gp := gp.mono hle); (try have hcg := hcg.mono hle); skip) | (apply TL.val; rfl; rfl; (apply V.build; (iterate 6 rfl))) | (apply TL.x; rfl; rfl; (apply X.buildParts (d := 10) (encs ([(⟨0, z5⟩ : VersionV), (⟨10, z8⟩ : VersionV)])); (iterate 11 rfl)); intro b10 _; apply TL.frzBlk 0 (α := VersionV) (els := [(⟨0, z5⟩ : VersionV), (⟨10, z8⟩ : VersionV)]) (m := 2) rfl rfl rfl (by decide) (by intro x hx; rcases List.mem_cons.1 hx with rfl | hx; exact ⟨show I64 0 by unfold I64; decide, e5⟩; rw [List.mem_singleton.1 hx]; exact ⟨show I64 10 by unfold I64; decide, e8⟩); intro H1 gl hle; have hR := Rules.mono hle hR; (try have e5 := Enc.mono hle e5); (try have e8 := Enc.mono hle e8); (try have e20 := Enc.mono hle e20); (try have e23 := Enc.mono hle e23); (try have e25 := Enc.mono hle e25); (try have e28 := Enc.mono hle e28); (try have gl := gl.mono hle); (try have gp := gp.mono hle); (try have hcg := hcg.mono hle); skip) | (apply TL.val; rfl; rfl; (first | exact vpure | exact vread))))
  all_goals (try contradiction)
  have hvs := r7vers c5 c8 e5 e8
  obtain ⟨sl, hsl⟩ : ∃ sl : Slc VersionV, (⟨some ⟨b10, 0, none⟩, 2, 2, [(⟨0, z5⟩ : VersionV), (⟨10, z8⟩ : VersionV)]⟩ : Slc VersionV) = sl := ⟨_, rfl⟩
  have hsv : Value.slice (some ⟨b10, 0, none⟩) 2 2 = sl.v := by rw [← hsl]
  have hse : sl.els = [(⟨0, z5⟩ : VersionV), (⟨10, z8⟩ : VersionV)] := by rw [← hsl]
  rw [hsl] at gl
  rw [← hse] at hvs
  clear hsl
  rw [hsv]
  clear hsv
  have hsn : sl.len = 2 := by have := gl.len; rw [hse] at this; exact this.symm
  repeat (any_goals (first | (apply T.seqU 4; rfl) | refine T.region ?_ | refine TL.nil ?_ | refine N.next ?_ | (apply TL.val; rfl; rfl; (apply V.build; (iterate 6 rfl))) | (apply TL.x; rfl; rfl; (apply X.buildParts (d := 16) (encs ([(⟨1, 5, false⟩ : PollV), (⟨1, 12, true⟩ : PollV), (⟨1, 15, false⟩ : PollV)])); (iterate 11 rfl)); intro b16 _; apply TL.frzBlk 0 (α := PollV) (els := [(⟨1, 5, false⟩ : PollV), (⟨1, 12, true⟩ : PollV), (⟨1, 15, false⟩ : PollV)]) (m := 3) rfl rfl rfl (by decide) (by intro x hx; rcases List.mem_cons.1 hx with rfl | hx; exact ⟨show I64 1 by unfold I64; decide, show I64 5 by unfold I64; decide⟩; rcases List.mem_cons.1 hx with rfl | hx; exact ⟨show I64 1 by unfold I64; decide, show I64 12 by unfold I64; decide⟩; rw [List.mem_singleton.1 hx]; exact ⟨show I64 1 by unfold I64; decide, show I64 15 by unfold I64; decide⟩); intro H1 gp hle; have hR := Rules.mono hle hR; (try have e5 := Enc.mono hle e5); (try have e8 := Enc.mono hle e8); (try have e20 := Enc.mono hle e20); (try have e23 := Enc.mono hle e23); (try have e25 := Enc.mono hle e25); (try have e28 := Enc.mono hle e28); (try have gl := gl.mono hle); (try have gp := gp.mono hle); (try have hcg := hcg.mono hle); skip) | (apply TL.x; rfl; rfl; (apply X.callFE (d := 17) (f := 6) [sl.v, intV 0, .slice (some ⟨b16, 0, none⟩) 3 3, intV 20] Tryz.call6; rfl; rfl; rfl; exact (fun _ hs => c_Spread sl 0 (⟨some ⟨b16, 0, none⟩, 3, 3, [(⟨1, 5, false⟩ : PollV), (⟨1, 12, true⟩ : PollV), (⟨1, 15, false⟩ : PollV)]⟩ : Slc PollV) 20 hvs (by show 3 ≤ 20; decide) (by unfold I64; decide) hs.sat hR gl gp)); rintro ⟨H1, cp, e⟩ ⟨⟨hsp, hcg⟩, hle⟩; dsimp only at hsp hcg hle ⊢; have hR := Rules.mono hle hR; (try have e5 := Enc.mono hle e5); (try have e8 := Enc.mono hle e8); (try have e20 := Enc.mono hle e20); (try have e23 := Enc.mono hle e23); (try have e25 := Enc.mono hle e25); (try have e28 := Enc.mono hle e28); (try have gl := gl.mono hle); (try have gp := gp.mono hle); (try have hcg := hcg.mono hle); skip) | (apply TL.val; rfl; rfl; (first | exact vpure | exact vread))))
  all_goals (try contradiction)
  have ha : atsOf sl.els = [0, 10] := by rw [hse]; rfl
  have he : e = 0 := hsp.ok (by decide) (pollsOK_iff.1 (by decide +kernel)) (by rw [ha]; decide +kernel)
  subst he
  have hmap := (hsp.good rfl).2
  rw [ha] at hmap
  have hall : allServes [0, 10] 0 [(⟨1, 5, false⟩ : PollV), (⟨1, 12, true⟩ : PollV), (⟨1, 15, false⟩ : PollV)] 20 64 = [(0, 0, 10, 0), (0, 10, 20, 1), (1, 5, 15, 0), (1, 15, 20, 1)] := by decide +kernel
  have h0 : zcOf sl.els 0 = r7zone 1 [] := by rw [hse]; exact c5
  have h1 : zcOf sl.els 1 = r7zone 2 [7] := by rw [hse]; exact c8
  have hmap : cp.els.map copyC = [(0, 0, 10, r7zone 1 []), (0, 10, 20, r7zone 2 [7]), (1, 5, 15, r7zone 1 []), (1, 15, 20, r7zone 2 [7])] := by
    refine hmap.trans ?_
    rw [hall]
    show [(_, _, _, zcOf sl.els 0), (_, _, _, zcOf sl.els 1), (_, _, _, zcOf sl.els 0), (_, _, _, zcOf sl.els 1)] = _
    rw [h0, h1]
  clear hall hsp
  repeat (any_goals (first | (apply T.seqU 5; rfl) | refine T.region ?_ | refine TL.nil ?_ | refine N.next ?_ | refine T.ret ?_ | (apply TL.skip; rfl; rfl; rfl) | (apply TL.x; rfl; rfl; (apply X.callFE (d := 20) (f := 11) [intV 1, .slice none 0 0] Tryz.call11; rfl; rfl; rfl; exact (fun _ hs => c_r7Zone 1 (Slc.nil Int) (by unfold I64; decide) (by decide) hs.sat Slc.nil_good)); rintro ⟨H1, z20⟩ ⟨⟨c20, e20⟩, hle⟩; dsimp only at c20 e20 hle ⊢; have hR := Rules.mono hle hR; (try have e5 := Enc.mono hle e5); (try have e8 := Enc.mono hle e8); (try have e20 := Enc.mono hle e20); (try have e23 := Enc.mono hle e23); (try have e25 := Enc.mono hle e25); (try have e28 := Enc.mono hle e28); (try have gl := gl.mono hle); (try have gp := gp.mono hle); (try have hcg := hcg.mono hle); skip) | (apply TL.x; rfl; rfl; (apply X.buildSlice1 (d := 22); (iterate 8 rfl)); intro b22 _; apply TL.frzBlk 0 (α := Int) (els := [(7 : Int)]) (m := 1) rfl rfl rfl (by decide) (by intro x hx; rw [List.mem_singleton.1 hx]; exact (show I64 7 by unfold I64; decide)); intro H1 g22 hle; have hR := Rules.mono hle hR; (try have e5 := Enc.mono hle e5); (try have e8 := Enc.mono hle e8); (try have e20 := Enc.mono hle e20); (try have e23 := Enc.mono hle e23); (try have e25 := Enc.mono hle e25); (try have e28 := Enc.mono hle e28); (try have gl := gl.mono hle); (try have gp := gp.mono hle); (try have hcg := hcg.mono hle); skip) | (apply TL.x; rfl; rfl; (apply X.callFE (d := 23) (f := 11) [intV 2, .slice (some ⟨b22, 0, none⟩) 1 1] Tryz.call11; rfl; rfl; rfl; exact (fun _ hs => c_r7Zone 2 (⟨some ⟨b22, 0, none⟩, 1, 1, [7]⟩ : Slc Int) (by unfold I64; decide) (by show 1 ≤ 100; decide) hs.sat g22)); rintro ⟨H1, z23⟩ ⟨⟨c23, e23⟩, hle⟩; dsimp only at c23 e23 hle ⊢; have hR := Rules.mono hle hR; (try have e5 := Enc.mono hle e5); (try have e8 := Enc.mono hle e8); (try have e20 := Enc.mono hle e20); (try have e23 := Enc.mono hle e23); (try have e25 := Enc.mono hle e25); (try have e28 := Enc.mono hle e28); (try have gl := gl.mono hle); (try have gp := gp.mono hle); (try have hcg := hcg.mono hle); skip) | (apply TL.x; rfl; rfl; (apply X.callFE (d := 25) (f := 11) [intV 1, .slice none 0 0] Tryz.call11; rfl; rfl; rfl; exact (fun _ hs => c_r7Zone 1 (Slc.nil Int) (by unfold I64; decide) (by decide) hs.sat Slc.nil_good)); rintro ⟨H1, z25⟩ ⟨⟨c25, e25⟩, hle⟩; dsimp only at c25 e25 hle ⊢; have hR := Rules.mono hle hR; (try have e5 := Enc.mono hle e5); (try have e8 := Enc.mono hle e8); (try have e20 := Enc.mono hle e20); (try have e23 := Enc.mono hle e23); (try have e25 := Enc.mono hle e25); (try have e28 := Enc.mono hle e28); (try have gl := gl.mono hle); (try have gp := gp.mono hle); (try have hcg := hcg.mono hle); skip) | (apply TL.x; rfl; rfl; (apply X.buildSlice1 (d := 27); (iterate 8 rfl)); intro b27 _; apply TL.frzBlk 0 (α := Int) (els := [(7 : Int)]) (m := 1) rfl rfl rfl (by decide) (by intro x hx; rw [List.mem_singleton.1 hx]; exact (show I64 7 by unfold I64; decide)); intro H1 g27 hle; have hR := Rules.mono hle hR; (try have e5 := Enc.mono hle e5); (try have e8 := Enc.mono hle e8); (try have e20 := Enc.mono hle e20); (try have e23 := Enc.mono hle e23); (try have e25 := Enc.mono hle e25); (try have e28 := Enc.mono hle e28); (try have gl := gl.mono hle); (try have gp := gp.mono hle); (try have hcg := hcg.mono hle); skip) | (apply TL.x; rfl; rfl; (apply X.callFE (d := 28) (f := 11) [intV 2, .slice (some ⟨b27, 0, none⟩) 1 1] Tryz.call11; rfl; rfl; rfl; exact (fun _ hs => c_r7Zone 2 (⟨some ⟨b27, 0, none⟩, 1, 1, [7]⟩ : Slc Int) (by unfold I64; decide) (by show 1 ≤ 100; decide) hs.sat g27)); rintro ⟨H1, z28⟩ ⟨⟨c28, e28⟩, hle⟩; dsimp only at c28 e28 hle ⊢; have hR := Rules.mono hle hR; (try have e5 := Enc.mono hle e5); (try have e8 := Enc.mono hle e8); (try have e20 := Enc.mono hle e20); (try have e23 := Enc.mono hle e23); (try have e25 := Enc.mono hle e25); (try have e28 := Enc.mono hle e28); (try have gl := gl.mono hle); (try have gp := gp.mono hle); (try have hcg := hcg.mono hle); skip) | (apply TL.val; rfl; rfl; (apply V.build; (iterate 6 rfl))) | (apply TL.x; rfl; rfl; (apply X.buildParts (d := 30) (encs ([(⟨0, 0, 10, z20⟩ : CopyV), (⟨0, 10, 20, z23⟩ : CopyV), (⟨1, 5, 15, z25⟩ : CopyV), (⟨1, 15, 20, z28⟩ : CopyV)])); (iterate 11 rfl)); intro b30 _; apply TL.frzBlk 0 (α := CopyV) (els := [(⟨0, 0, 10, z20⟩ : CopyV), (⟨0, 10, 20, z23⟩ : CopyV), (⟨1, 5, 15, z25⟩ : CopyV), (⟨1, 15, 20, z28⟩ : CopyV)]) (m := 4) rfl rfl rfl (by decide) (by intro x hx; rcases List.mem_cons.1 hx with rfl | hx; exact ⟨show I64 0 by unfold I64; decide, show I64 0 by unfold I64; decide, show I64 10 by unfold I64; decide, e20⟩; rcases List.mem_cons.1 hx with rfl | hx; exact ⟨show I64 0 by unfold I64; decide, show I64 10 by unfold I64; decide, show I64 20 by unfold I64; decide, e23⟩; rcases List.mem_cons.1 hx with rfl | hx; exact ⟨show I64 1 by unfold I64; decide, show I64 5 by unfold I64; decide, show I64 15 by unfold I64; decide, e25⟩; rw [List.mem_singleton.1 hx]; exact ⟨show I64 1 by unfold I64; decide, show I64 15 by unfold I64; decide, show I64 20 by unfold I64; decide, e28⟩); intro H1 gw hle; have hR := Rules.mono hle hR; (try have e5 := Enc.mono hle e5); (try have e8 := Enc.mono hle e8); (try have e20 := Enc.mono hle e20); (try have e23 := Enc.mono hle e23); (try have e25 := Enc.mono hle e25); (try have e28 := Enc.mono hle e28); (try have gl := gl.mono hle); (try have gp := gp.mono hle); (try have hcg := hcg.mono hle); skip) | (apply TL.val; rfl; rfl; (first | exact vpure | exact vread)) | (apply TL.guard; rfl; rfl; rfl; (exact isx); intro _; rotate_left; intro _; rotate_right)))
  all_goals (try contradiction)
  have hsame : cp.els.map copyC = [(⟨0, 0, 10, z20⟩ : CopyV), (⟨0, 10, 20, z23⟩ : CopyV), (⟨1, 5, 15, z25⟩ : CopyV), (⟨1, 15, 20, z28⟩ : CopyV)].map copyC := by
    rw [hmap]
    show _ = [(_, _, _, z20.c), (_, _, _, z23.c), (_, _, _, z25.c), (_, _, _, z28.c)]
    rw [c20, c23, c25, c28]; rfl
  repeat (any_goals (first | refine TL.nil ?_ | refine N.next ?_ | refine T.ret ?_ | (apply TL.callE (f := 12) [cp.v, .slice (some ⟨b30, 0, none⟩) 4 4] Tryz.call12; (iterate 4 rfl); (exact fun _ hs => c_SameCopies cp (⟨some ⟨b30, 0, none⟩, 4, 4, [(⟨0, 0, 10, z20⟩ : CopyV), (⟨0, 10, 20, z23⟩ : CopyV), (⟨1, 5, 15, z25⟩ : CopyV), (⟨1, 15, 20, z28⟩ : CopyV)]⟩ : Slc CopyV) hsame hs.sat hcg gw)) | (apply TL.val; rfl; rfl; (first | exact vpure | exact vread))))
  all_goals (try contradiction)
  all_goals first
    | exact N.ret_bool rfl (by (exact rvx)) rfl
    | trace_state
end
end Go.Proofs.YthabgdbhgcgemaaGreatDoor
