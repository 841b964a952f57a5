import Derived.Test.YtepljgpikfeklaaGreatDoorQZF
import Derived.Test.YtepljgpikfeklaaGreatDoorQNA
import Derived.Test.YtepljgpikfeklaaGreatDoorQEngC
import Derived.Test.YtepljgpikfeklaaGreatDoorQTMap
namespace Go.Proofs.YtepljgpikfeklaaGreatDoor
set_option linter.unusedVariables false
set_option linter.unusedSimpArgs false
open Go Go.RowKit
open Enc (enc)
set_option maxRecDepth 20000
theorem c_S06 (s : Slc Sig) (apex : Bytes) {v : Bool} (h : sigsForm s.els apex = v) {H : Hp} {w : World} (hs : Sat H w) (hg : s.Good H) (ha : LenOk apex) : Calls Tryz.prog 97 #[s.v, strV apex] w (Ret w (.bool v)) := h ▸ c_Sigs06 s apex H w hs hg ha
set_option maxHeartbeats 8000000 in
theorem c_five06 (z : ZoneV) (hO : OneZ z.c) {H : Hp} {w : World} (hs : Sat H w) (hz : Enc.good H z) : Calls Tryz.prog 46 #[.agg (enc z).toArray] w (Tells w (FiveZ z.c (behRZ z.c))) := by
  have hzl := hz.2.len
  refine T.enter (vs := [.agg (enc z).toArray]) (H := H) Tryz.func46 rfl rfl rfl hs ?_
  repeat (any_goals (first | refine T.seq ?_ | refine T.region ?_ | refine TL.nil ?_ | refine N.next ?_ | refine T.block ?_ | (apply TL.x; rfl; rfl; (apply X.box (d := 1); rfl; rfl; rfl); intro b1 _) | (apply TL.x; rfl; rfl; (apply X.callFE (f := 96) [.agg (enc z).toArray] Tryz.call96; rfl; rfl; rfl; exact (fun _ hs => c_Own06 z hO hs.sat hz)); intro p hp) | (apply TL.val; rfl; rfl; (first | exact vpure | exact vread))))
  obtain ⟨⟨hpe, hpg⟩, hple⟩ := hp
  have hplen := hpg.len
  have hBl := behT_len z
  have hOl : (ownsOf (behT (behRZ z.c)) z.sets.els).length = z.sets.els.length := by unfold ownsOf; rw [List.length_map, List.length_zip]; omega
  rw [hpe] at hplen
  have hzg := Enc.mono hple hz
  have hlim := hzg.2.lim
  refine T.loop (G := Nat) (fun i => [(1, .pointer (some ⟨b1, 0, none⟩)), (3, p.2.v), (4, intV i)]) (fun _ => p.1) (fun i => [.blk b1 36 (enc z)]) (fun i => i ≤ z.sets.len ∧ ∀ j (hj : j < z.sets.els.length), j < i → fiveOK z.apex ((behRZ z.c)[j]?.getD none) z.sets.els[j].c) (fun i => z.sets.len - i) 0 ⟨Nat.zero_le _, fun j _ h => by omega⟩ (by (repeat (first | exact True.intro | refine ⟨rfl, ?_⟩ | refine Sub.int rfl (by omega) ?_))) rfl (by (repeat (first | exact List.Sublist.refl _ | exact List.nil_sublist _ | apply List.Sublist.cons_cons | apply List.Sublist.cons))) ?_
  rintro i ⟨hi, hrel⟩
  by_cases hlt : i < z.sets.len
  · have hiz : i < z.sets.els.length := by omega
    have hip : i < p.2.els.length := by rw [hpe]; omega
    obtain ⟨bo, hbo⟩ : ∃ bo, (behRZ z.c)[i]?.getD none = bo := ⟨_, rfl⟩
    have hsm := behT_small (z := z.c) (i := i) hO
    rw [hbo] at hsm
    obtain ⟨x, hx⟩ : ∃ x, z.sets.els[i]'hiz = x := ⟨_, rfl⟩
    have hoe : p.2.els[i] = own1 (bo.getD []) x := by
      have h1 := ownsOf_at (B := behT (behRZ z.c)) (l := z.sets.els) (i := i) (by omega) hiz (by omega)
      rw [behT_at (by omega), hbo, hx] at h1
      simp only [hpe, h1]
    obtain ⟨ov, hov⟩ : ∃ ov, own1 (bo.getD []) x = ov := ⟨_, rfl⟩
    rw [hov] at hoe
    have hoc := hpg.cell (k := i) (j := 0) (by omega) (v := .bool ov) (by rw [hoe]; rfl)
    have hsg := hzg.2.els _ (List.getElem_mem hiz)
    rw [hx] at hsg
    have hsc := hzg.2.cell (k := i) (j := 4) hlt (v := x.sigs.v) (by show some (z.sets.els[i]'hiz).sigs.v = _; rw [hx])
    have hsl := hsg.2.len
    obtain ⟨fv, hfv⟩ : ∃ fv, sigsForm x.sigs.els z.apex = fv := ⟨_, rfl⟩
    have hown : ov = false → bo ≠ none ∧ (x.set.typ = 2 ∨ x.set.typ = 1) := fun h => by
      rw [← hov] at h
      unfold own1 at h
      rw [Bool.or_eq_false_iff, decide_eq_false_iff_not] at h
      refine ⟨fun h' => h.1 (hsm.2 h'), ?_⟩
      have := h.2
      rw [Bool.and_eq_false_iff] at this
      rcases this with h2 | h2
      · exact .inl (by simpa using h2)
      · exact .inr (by simpa using h2)
    have hown2 : ov = true → bo ≠ none → (x.set.typ = 2 ∨ x.set.typ = 1) → False := fun h h1 h2 => by
      rw [← hov] at h
      unfold own1 at h
      rw [Bool.or_eq_true, decide_eq_true_iff] at h
      rcases h with h | h
      · exact h1 (hsm.1 h)
      · rw [Bool.and_eq_true] at h
        rcases h2 with h2 | h2
        · rw [decide_eq_true h2] at h; cases h.1
        · rw [decide_eq_true h2] at h; cases h.2
    repeat (any_goals (first | refine T.seq ?_ | refine T.region ?_ | (apply T.regionD wide; rfl) | refine TL.nil ?_ | refine N.next ?_ | refine N.inBlock ?_ | refine N.exit_same ?_ | refine N.exit_then ?_ | refine N.ret_then ?_ | refine N.ret_block ?_ | refine T.ret ?_ | refine T.skip ?_ | refine T.exit ?_ | refine T.block ?_ | (apply T.cond_true; rfl) | (apply T.cond_false; rfl) | (apply T.test; rfl; (exact isx); intro _; rotate_left; intro _; rotate_right) | (apply GT.skip; rfl; rfl; rfl; decide +kernel) | (apply GT.pure; (iterate 4 rfl); (apply V.elem (j := i); (iterate 6 rfl); omega; exact hzg.2.at_ (by omega)); decide +kernel) | (apply GT.pure; (iterate 4 rfl); (apply V.elem (j := i); (iterate 6 rfl); omega; exact hpg.at_ (by omega)); decide +kernel) | (apply GT.read; (iterate 4 rfl); (apply V.load_H; rfl; rfl; rfl; first | exact hsc | exact hoc); decide +kernel) | (apply GT.callE (f := 97) [x.sigs.v, strV z.apex] Tryz.call97; (iterate 6 rfl); (exact fun _ hs => c_S06 x.sigs z.apex hfv hs.sat hsg.2 hzg.1); decide +kernel) | (apply TL.val; rfl; rfl; (first | exact vpure | exact vread)) | (apply GT.pure; (iterate 4 rfl); (first | exact vpure); decide +kernel) | (apply GT.read; (iterate 4 rfl); (first | exact vpure | exact vread); decide +kernel) | (apply GT.done; decide +kernel; apply N.ofQ) | (apply GT.guard; (iterate 4 rfl); (exact isx); intro _; rotate_left; intro _; rotate_right)))
    all_goals (try contradiction)
    all_goals (try (exfalso; omega))
    all_goals first
      | exact N.tellF rfl (by (exact rvx))
      | (refine N.round (i + 1) ⟨by show i + 1 ≤ _; omega, fun j hj hjk => ?_⟩ (by show z.sets.len - (i + 1) < z.sets.len - i; omega) (by (repeat (first | exact True.intro | refine ⟨rfl, ?_⟩ | refine Sub.int rfl (by omega) ?_))) rfl (by (repeat (first | exact List.Sublist.refl _ | exact List.nil_sublist _ | apply List.Sublist.cons_cons | apply List.Sublist.cons)))
         by_cases e : j = i
         · subst e
           rw [hbo]
           simp only [hx]
           refine ⟨hfv.trans (by assumption), fun h1 h2 => ?_⟩
           show x.sigs.els = []
           first
             | exact absurd h2 (fun h2 => hown2 (by assumption) h1 h2)
             | exact List.length_eq_zero_iff.1 (by omega)
         · exact hrel j hj (by omega))
  · have hie : i = z.sets.len := by omega
    subst hie
    repeat (any_goals (first | refine T.seq ?_ | refine T.region ?_ | (apply T.regionD wide; rfl) | refine TL.nil ?_ | refine N.next ?_ | refine N.exit_same ?_ | refine N.exit_then ?_ | refine T.ret ?_ | refine T.skip ?_ | refine T.exit ?_ | refine T.block ?_ | (apply T.test; rfl; (exact isx); intro _; rotate_left; intro _; rotate_right) | (apply TL.val; rfl; rfl; (first | exact vpure | exact vread)) | (apply GT.pure; (iterate 4 rfl); (first | exact vpure); decide +kernel) | (apply GT.read; (iterate 4 rfl); (first | exact vpure | exact vread); decide +kernel) | (apply GT.fork2 6; decide +kernel)))
    all_goals (try (exfalso; omega))
    refine N.tellT rfl (by (exact rvx)) fun i hi => ?_
    have h1 : i < z.sets.els.length := by rw [← setsC_len]; exact hi
    rw [setsC_at hi h1]
    exact hrel i h1 (by omega)
set_option maxHeartbeats 2000000 in
theorem c_Valid06 (z : ZoneV) {H : Hp} {w : World} (hs : Sat H w) (hz : Enc.good H z) : Calls Tryz.prog 19 #[.agg (enc z).toArray] w (Tells w (ZonedR z.c)) := by
  refine T.enter (vs := [.agg (enc z).toArray]) (H := H) Tryz.func19 rfl rfl rfl hs ?_
  repeat (any_goals (first | refine T.seq ?_ | refine T.region ?_ | refine TL.nil ?_ | refine N.next ?_ | refine T.ret ?_ | (apply TL.skip; rfl; rfl; rfl) | (apply TL.x; rfl; rfl; (apply X.box (d := 1); rfl; rfl; rfl); intro b1 _) | (apply TL.x; rfl; rfl; (apply X.callG (f := 42) [.agg (enc z).toArray] Tryz.call42; rfl; rfl; rfl; exact (fun _ hs => c_one06 z hs.sat hz)); intro v1 hv1) | (apply TL.x; rfl; rfl; (apply X.callG (f := 43) [.agg (enc z).toArray] Tryz.call43; rfl; rfl; rfl; exact (fun _ hs => c_two06 z hs.sat hz)); intro v2 hv2) | (apply TL.x; rfl; rfl; (apply X.callG (f := 44) [.agg (enc z).toArray] Tryz.call44; rfl; rfl; rfl; exact (fun _ hs => c_Three06 z (hv1 (by assumption)) hs.sat hz)); intro v3 hv3) | (apply TL.x; rfl; rfl; (apply X.callG (f := 45) [.agg (enc z).toArray] Tryz.call45; rfl; rfl; rfl; exact (fun _ hs => c_Four06 z (hv1 (by assumption)) hs.sat hz)); intro v4 hv4) | (apply TL.x; rfl; rfl; (apply X.callG (f := 46) [.agg (enc z).toArray] Tryz.call46; rfl; rfl; rfl; exact (fun _ hs => c_five06 z (hv1 (by assumption)) hs.sat hz)); intro v5 hv5) | (apply TL.val; rfl; rfl; (first | exact vpure | exact vread)) | (apply TL.guard; rfl; rfl; rfl; (exact isx); intro _; rotate_left; intro _; rotate_right)))
  all_goals (try contradiction)
  all_goals first
    | exact N.tellF rfl (by (exact rvx))
    | exact N.tell rfl (by (exact rvx)) (fun h5 => ⟨hv1 (by assumption), hv2 (by assumption), hv3 (by assumption), hv4 (by assumption), hv5 h5⟩)
end Go.Proofs.YtepljgpikfeklaaGreatDoor
namespace Go.Proofs.YtepljgpikfeklaaGreatDoor
set_option linter.unusedVariables false
set_option linter.unusedSimpArgs false
open Go Go.RowKit
set_option maxRecDepth 20000
def spaceAt (r : List Bytes) (k : Nat) : List Bytes := List.replicate (8 - k) [] ++ (r.take k).reverse
theorem space_len {r : List Bytes} {k : Nat} (hk : k ≤ r.length) (h8 : k ≤ 8) : (spaceAt r k).length = 8 := by
  unfold spaceAt
  rw [List.length_append, List.length_replicate, List.length_reverse, List.length_take]
  omega
theorem space_get {r : List Bytes} {k : Nat} (h8 : k < 8) : (spaceAt r k)[7 - k]? = some [] := by
  unfold spaceAt
  rw [List.getElem?_append_left (by rw [List.length_replicate]; omega), List.getElem?_replicate, if_pos (by omega)]
theorem space_up {r : List Bytes} {k : Nat} (hk : k < r.length) (h8 : k < 8) : (spaceAt r k).set (7 - k) r[k] = spaceAt r (k + 1) := by
  unfold spaceAt
  rw [show 8 - k = (8 - (k + 1)) + 1 by omega, List.replicate_succ', List.append_assoc, List.take_succ_eq_append_getElem hk, List.reverse_append]
  rw [List.set_append_right _ _ (by rw [List.length_replicate]; omega), List.length_replicate, show 7 - k - (8 - (k + 1)) = 0 by omega]
  rfl
theorem space_end {r : List Bytes} (h8 : r.length ≤ 8) : (spaceAt r r.length).drop (8 - r.length) = r.reverse := by
  unfold spaceAt
  rw [List.drop_append_of_le_length (by rw [List.length_replicate]; omega), List.drop_of_length_le (by rw [List.length_replicate]; omega), List.take_length, List.nil_append]
theorem labs_parts (l : Bytes) : (labs l).reverse = parts l := by
  unfold labs parts
  by_cases h : l = [46]
  · rw [if_pos h, if_pos h]; rfl
  · rw [if_neg h, if_neg h, List.reverse_reverse]
theorem labs_few {l : Bytes} (h : nameOK l = true) : (labs l).length ≤ 8 := by
  rcases (nameOK_iff l).1 h with h0 | ⟨_, h1⟩
  · unfold labs; rw [if_pos h0]; exact Nat.zero_le _
  · by_cases h0 : l = [46]
    · unfold labs; rw [if_pos h0]; exact Nat.zero_le _
    · have : labs l = (splitDots l).reverse := by unfold labs; rw [if_neg h0]
      rw [← this] at h1
      exact h1.1
theorem space_good {r : List Bytes} {k : Nat} {H : Hp} (h : ∀ x ∈ r, LenOk x) : ∀ x ∈ spaceAt r k, Enc.good H x := fun x hx => by
  unfold spaceAt at hx
  rcases List.mem_append.1 hx with hx | hx
  · rw [(List.mem_replicate.1 hx).2]; show LenOk []; decide
  · exact h x (List.mem_of_mem_take (List.mem_reverse.1 hx))
theorem c_LabelsNo (l : Bytes) (h : nameOK l = false) (H : Hp) (w : World) (hs : Sat H w) (hl : LenOk l) : Calls Tryz.prog 55 #[strV l] w (Ret w (.tuple #[.slice none 0 0, intV 11])) := by
  refine T.enterM (vs := [strV l]) (H := H) Tryz.func55 rfl rfl rfl hs ?_
  have hc : ∀ w, Sat H w → Calls Tryz.prog 99 #[strV l] w (Ret w (.bool false)) := fun w hs => by
    have := c_textValid l H w hs hl
    rwa [h] at this
  repeat (any_goals (first | refine T.seq ?_ | refine T.region ?_ | refine TL.nil ?_ | refine N.next ?_ | refine N.ret_then ?_ | refine T.ret ?_ | (apply T.cond_true; rfl) | (apply TL.call0 (f := 99) Tryz.call99; rfl; rfl; rfl; (exact fun _ hs => hc _ hs.sat)) | (apply TL.val; rfl; rfl; (first | exact vpure | exact vread))))
  exact N.bare (N.ret_two rfl (by (exact rvx)) (by (exact rvx)) rfl)
set_option maxHeartbeats 4000000 in
theorem c_LabelsYes (l : Bytes) (h : nameOK l = true) (H : Hp) (w : World) (hs : Sat H w) (hl : LenOk l) : Calls Tryz.prog 55 #[strV l] w (RetF w H (fun g : Hp × Slc Bytes => g.2.els = parts l ∧ g.2.Good g.1) (fun g => .tuple #[g.2.v, intV 0]) (fun g => g.1)) := by
  have h8 := labs_few h
  have hl' : l.length ≤ 9223372036854775807 := hl
  have hgood : ∀ x ∈ labs l, LenOk x := fun x hx => Nat.le_trans (labs_len hx) hl'
  refine T.enterM (vs := [strV l]) (H := H) Tryz.func55 rfl rfl rfl hs ?_
  have hc : ∀ w, Sat H w → Calls Tryz.prog 99 #[strV l] w (Ret w (.bool true)) := fun w hs => by
    have := c_textValid l H w hs hl
    rwa [h] at this
  repeat (any_goals (first | refine T.seq ?_ | refine T.region ?_ | refine TL.nil ?_ | refine N.next ?_ | refine T.skip ?_ | refine T.block ?_ | (apply T.cond_false; rfl) | (apply TL.call0 (f := 99) Tryz.call99; rfl; rfl; rfl; (exact fun _ hs => hc _ hs.sat)) | (apply TL.x; rfl; rfl; (apply X.makeSlice ([] : Bytes) 8; (iterate 10 rfl); decide; decide); intro bm _) | (apply TL.val; rfl; rfl; (apply V.lenE; (iterate 5 rfl))) | (apply TL.val; rfl; rfl; ((apply V.makeFunc (vs := [_]) (us := []) <;> rfl))) | (apply TL.val; rfl; rfl; (first | exact vpure | exact vread)) | (apply TL.x; rfl; rfl; (first | exact xgrow | exact xput); intro _ _)))
  rename_i b5 _ _ _ b6 _ _ _
  refine T.rangeFunc (G := Unit) (fun _ => .normal) (fun _ => H) (fun _ => [.blk b6 3 [intV (8 - ((labs l).length : Int))], .blk b5 67 [.slice (some ⟨bm, 0, none⟩) 8 8], .row (.slice (some ⟨bm, 0, none⟩) 8 8) 9 1 8 (encs (spaceAt (labs l) (labs l).length))]) (fun _ => True) rfl Tryz.call104 (fun _ _ => trivial) ?_ ?_
  · intro fn a b hf w1 hs1
    refine (c_backwards l hl (G := Nat) (fun k g => g = k) (fun _ => False) (fun _ => H) (fun k => [.any (b + 1) (.loop (recd fn a.tmps _ _ _ b .ready none)), .any b (.deferred (some [])), .blk b6 3 [intV (8 - (k : Int))], .blk b5 67 [.slice (some ⟨bm, 0, none⟩) 8 8], .row (.slice (some ⟨bm, 0, none⟩) 8 8) 9 1 8 (encs (spaceAt (labs l) k))]) ?_ 0 rfl hs1).mono ?_
    · rintro k g rfl hk w2 hs2
      refine yieldAt_of (i := 0) hs2 rfl rfl _ (Fr.round1 hf rfl) (env₁ := [(5, .pointer (some ⟨b5, 0, none⟩)), (6, .pointer (some ⟨b6, 0, none⟩)), (8, strV (labs l)[g])]) ?_ ?_
      · repeat (any_goals (first | refine T.region ?_ | refine TL.nil ?_ | (apply TL.val; rfl; rfl; (first | exact vpure | exact vread))))
        exact N.both (by (repeat (first | exact True.intro | refine ⟨rfl, ?_⟩ | refine Sub.int rfl (by omega) ?_)))
      · simp only [List.set_cons_zero]
        have hk8 : g < 8 := by omega
        repeat (any_goals (first | refine T.seq ?_ | refine T.region ?_ | refine TL.nil ?_ | refine N.next ?_ | refine T.block ?_ | (apply TL.val; rfl; rfl; (apply V.elemI; (iterate 5 rfl); (show 0 ≤ 8 - (g : Int) - 1 ∧ 8 - (g : Int) - 1 < (8 : Nat); omega); rfl)) | (apply TL.val; rfl; rfl; (first | exact vpure | exact vread)) | (apply TL.x; rfl; rfl; (first | exact xgrow | exact xput); intro _ _)))
        refine TL.x rfl rfl (X.storeRowE 4 (vs := [strV (labs l)[g]]) (ys := encs (spaceAt (labs l) (g + 1))) rfl rfl rfl rfl rfl rfl rfl (by show 0 + (8 - (g : Int) - 1).toNat * 1 + 1 ≤ 8 * 1; omega) ?_) ?_
        · rw [← space_up hk hk8]
          exact encs_put (k := 7 - g) (j := 0) (vs := [strV (labs l)[g]]) (x := ([] : Bytes)) (y := (labs l)[g]) (space_get hk8) (by show 0 + 1 ≤ 1; omega) rfl (by show 0 + (8 - (g : Int) - 1).toNat * 1 = (7 - g) * 1 + 0; omega)
        intro _ _
        repeat (any_goals (first | refine TL.nil ?_ | refine N.inBlock ?_))
        refine N.round_out (i := 0) (e := .normal) trivial rfl fun w hs => ⟨true, g + 1, rfl, ?_, ?_⟩
        · rw [if_pos rfl]
        · rw [show (8 - (g : Int) - 1) = 8 - ((g + 1 : Nat) : Int) by omega] at hs
          exact hs
    · rintro e w2 ⟨v, g, rfl, (rfl | hF), hs2⟩
      · exact ⟨(), v, .ready, rfl, trivial, by simp, hs2⟩
      · exact hF.elim
  · intro b g hg
    show N _ _ _ _ .normal _ _ _
    repeat (any_goals (first | refine T.seq ?_ | refine T.region ?_ | refine TL.nil ?_ | refine N.next ?_ | refine N.inBlock ?_ | refine T.ret ?_ | (apply TL.val; rfl; rfl; (apply V.lenE; (iterate 5 rfl))) | (apply TL.val; rfl; rfl; (apply V.slice3 (8 - (labs l).length) 8 8; (iterate 7 rfl); omega; rfl; rfl; omega; omega; omega)) | (apply TL.val; rfl; rfl; (first | exact vpure | exact vread))))
    refine N.marked (i := 0) rfl (N.ret2 rfl (by (exact rvx)) (by (exact rvx)) fun w hst => ?_)
    obtain ⟨H', s, e1, e2, e3, e4, e5⟩ := (hst.sub (L' := [.row (.slice (some ⟨bm, 0, none⟩) 8 8) 9 1 8 (encs (spaceAt (labs l) (labs l).length))]) (.cons _ (.cons _ (.cons _ (List.Sublist.refl _))))).freezeRow rfl (space_len (Nat.le_refl _) h8) (space_good hgood)
    obtain ⟨A, m, c, els⟩ := s
    simp only [Slc.v, Value.slice.injEq] at e1
    simp only at e2
    obtain ⟨rfl, rfl, rfl⟩ := e1
    subst e2
    refine ⟨(H', (⟨some ⟨bm, 0, none⟩, 8, 8, spaceAt (labs l) (labs l).length⟩ : Slc Bytes).drop (8 - (labs l).length)), ⟨?_, e3.drop (by show 8 - (labs l).length ≤ 8; omega)⟩, rfl, e5.fresh⟩
    show (spaceAt (labs l) (labs l).length).drop (8 - (labs l).length) = parts l
    rw [space_end h8, labs_parts]
end Go.Proofs.YtepljgpikfeklaaGreatDoor
namespace Go.Proofs.YtepljgpikfeklaaGreatDoor
set_option linter.unusedVariables false
set_option linter.unusedSimpArgs false
open Go Go.RowKit
set_option maxRecDepth 20000
theorem inZone_no {s z : Bytes} (h : nameOK z = false) : inZone s z = false := by unfold inZone; simp [h]
theorem c_belongsNo (s z : Bytes) (h : nameOK z = false) (H : Hp) (w : World) (hs : Sat H w) (hl : LenOk s) (hz : LenOk z) : Calls Tryz.prog 27 #[strV s, strV z] w (Ret w (.bool (inZone s z))) := by
  refine T.enter (vs := [strV s, strV z]) (H := H) Tryz.func27 rfl rfl rfl hs ?_
  rw [inZone_no h]
  repeat (any_goals (first | refine T.seq ?_ | refine T.region ?_ | refine TL.nil ?_ | refine N.next ?_ | refine N.ret_then ?_ | refine T.ret ?_ | (apply T.cond_true; rfl) | (apply TL.skip; rfl; rfl; rfl) | (apply TL.call0 (f := 55) Tryz.call55; rfl; rfl; rfl; (exact fun _ hs => c_LabelsNo z h _ _ hs.sat hz)) | (apply TL.val; rfl; rfl; (first | exact vpure | exact vread))))
  all_goals (try (exfalso; omega))
  all_goals (try (first | (apply N.ret_bool; rfl; (exact rvx)) | (apply N.ret_int; rfl; (exact rvx)) | (apply N.ret_val; rfl; (exact rvx))))
  all_goals first | rfl | trace_state
theorem star_head {z : Bytes} (h0 : 0 < (parts z).length) : starN z = decide ((parts z)[0] = [42]) := by
  unfold starN
  rw [List.head?_eq_getElem?, List.getElem?_eq_getElem h0]
  simp
theorem star_none {z : Bytes} (h0 : ¬ 0 < (parts z).length) : starN z = false := by
  unfold starN
  rw [List.eq_nil_of_length_eq_zero (by omega : (parts z).length = 0)]
  simp
theorem inZone_yes {s z : Bytes} (h : nameOK z = true) (hst : starN z = false) : inZone s z = (underC s z).1 := by
  unfold inZone underC
  rw [h, hst]
  cases hs : nameOK s with
  | false => simp
  | true => simp [under_in h]
theorem underC_err {s z : Bytes} (h : nameOK z = true) : (underC s z).2 = 0 ∨ (underC s z).1 = false := by
  unfold underC
  split
  · exact .inl rfl
  · exact .inr rfl
set_option maxHeartbeats 1000000 in
theorem c_belongsYes (s z : Bytes) (h : nameOK z = true) (H : Hp) (w : World) (hs : Sat H w) (hl : LenOk s) (hz : LenOk z) : Calls Tryz.prog 27 #[strV s, strV z] w (Ret w (.bool (inZone s z))) := by
  refine T.enter (vs := [strV s, strV z]) (H := H) Tryz.func27 rfl rfl rfl hs ?_
  obtain ⟨ub, ue, hu⟩ : ∃ ub ue, underC s z = (ub, ue) := ⟨_, _, rfl⟩
  have hcu : ∀ H w, Sat H w → Calls Tryz.prog 56 #[strV s, strV z] w (Ret w (.tuple #[.bool ub, intV ue])) := fun H w hs => by
    have := c_Under s z H w hs hl hz
    rwa [hu] at this
  have hue : ue = 0 ∨ ub = false := by
    have := underC_err (s := s) h
    rw [hu] at this; exact this
  repeat (any_goals (first | refine T.seq ?_ | refine T.region ?_ | refine TL.nil ?_ | refine N.next ?_ | refine N.ret_then ?_ | refine T.ret ?_ | refine T.skip ?_ | (apply T.cond_false; rfl) | (apply T.test; rfl; (exact isx); intro _; rotate_left; intro _; rotate_right) | (apply TL.skip; rfl; rfl; rfl) | (apply TL.x; rfl; rfl; (apply X.callFE (f := 55) [strV z] Tryz.call55; rfl; rfl; rfl; exact (fun _ hs => c_LabelsYes z h _ _ hs.sat hz)); intro g hg; obtain ⟨⟨hg1, hg2⟩, hg3⟩ := hg; have hgl := hg2.len) | (apply TL.val; rfl; rfl; (apply V.elem (j := 0); (iterate 6 rfl); (show 0 < g.2.len; omega); exact hg2.at_ (by omega))) | (apply TL.val; rfl; rfl; (apply V.load_H; rfl; rfl; rfl; exact hg2.cell0 (k := 0) (by omega) rfl)) | (apply TL.call0 (f := 56) Tryz.call56; rfl; rfl; rfl; (exact fun _ hs => hcu _ _ hs.sat)) | (apply TL.val; rfl; rfl; (first | exact vpure | exact vread)) | (apply TL.guard; rfl; rfl; rfl; (exact isx); intro _; rotate_left; intro _; rotate_right)))
  all_goals (try (exfalso; omega))
  all_goals (try (first | (apply N.ret_bool; rfl; (exact rvx)) | (apply N.ret_int; rfl; (exact rvx)) | (apply N.ret_val; rfl; (exact rvx))))
  all_goals have hgl' : (parts z).length = g.2.len := by rw [← hg1]; exact hgl
  · have h0 : 0 < (parts z).length := by omega
    have e0 : g.2.els[0]'(by omega) = (parts z)[0] := by simp only [hg1]
    have hst : starN z = true := by rw [star_head h0, ← e0]; exact decide_eq_true (by assumption)
    unfold inZone; rw [hst]; simp
  all_goals
    have hst : starN z = false := by
      by_cases h0 : 0 < (parts z).length
      · have e0 : g.2.els[0]'(by omega) = (parts z)[0] := by simp only [hg1]
        rw [star_head h0, ← e0]
        first | exact decide_eq_false (by assumption) | (exfalso; omega)
      · exact star_none h0
    rw [inZone_yes h hst, hu]
    show _ = ub
    rcases hue with e | e
    · first | (symm; assumption) | (rw [e]; simp_all)
    · simp_all
theorem c_belongs (s z : Bytes) (H : Hp) (w : World) (hs : Sat H w) (hl : LenOk s) (hz : LenOk z) : Calls Tryz.prog 27 #[strV s, strV z] w (Ret w (.bool (inZone s z))) := by
  cases h : nameOK z with
  | false => exact c_belongsNo s z h H w hs hl hz
  | true => exact c_belongsYes s z h H w hs hl hz
end Go.Proofs.YtepljgpikfeklaaGreatDoor
