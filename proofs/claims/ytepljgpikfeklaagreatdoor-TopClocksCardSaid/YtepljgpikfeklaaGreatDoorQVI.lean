import Derived.Test.YtepljgpikfeklaaGreatDoorQVM
import Derived.Test.YtepljgpikfeklaaGreatDoorQNQ
namespace Go.Proofs.YtepljgpikfeklaaGreatDoor
set_option linter.unusedVariables false
set_option linter.unusedSimpArgs false
open Go Go.RowKit
open Enc (enc)
set_option maxRecDepth 20000
theorem get_err (q : Question) : (getC [] q 0).2.2 = if questionOK q = true then 0 else 1 := by
  unfold getC
  have h1 : cacheOK [] = true := by decide
  have h2 : isT 0 = true := by decide
  rw [h1, h2]
  cases questionOK q <;> simp
set_option maxHeartbeats 1000000 in
theorem c_holdsQuestion (q : Question) {H : Hp} {w : World} (hs : Sat H w) (hR : Rules H) (hq : Enc.good H q) : Calls Tryz.prog 33 #[.agg (enc q).toArray] w (Ret w (.bool (questionOK q))) := by
  have he := get_err q
  obtain ⟨r, hr⟩ : ∃ r, getC [] q 0 = r := ⟨_, rfl⟩
  rw [hr] at he
  have hG : ∀ {w : World}, Sat H w → Calls Tryz.prog 70 #[.agg (enc (⟨Slc.nil _⟩ : Cache)).toArray, .agg (enc q).toArray, intV 0] w (RetF w H (fun g : Hp × Entry => g.2.c = r.1 ∧ Enc.good g.1 g.2) (fun g => .tuple #[.agg (enc g.2).toArray, .bool r.2.1, intV r.2.2]) (fun g => g.1)) := fun hs => by
    have := c_Get ⟨Slc.nil _⟩ q 0 H _ hs hR Slc.nil_good hq (by decide)
    rw [show (⟨Slc.nil _⟩ : Cache).c = [] from rfl, hr] at this
    exact this
  refine T.enter (vs := [.agg (enc q).toArray]) (H := H) Tryz.func33 rfl rfl rfl hs ?_
  repeat (any_goals (first | refine T.seq ?_ | refine T.region ?_ | refine TL.nil ?_ | refine N.next ?_ | refine T.ret ?_ | (apply TL.val; rfl; rfl; (apply V.build; (iterate 6 rfl))) | (apply TL.x; rfl; rfl; (apply X.callFE (f := 70) [.agg (enc (⟨Slc.nil _⟩ : Cache)).toArray, .agg (enc q).toArray, intV 0] Tryz.call70; rfl; rfl; rfl; exact (fun _ hs => hG hs.sat)); intro p hp) | (apply TL.val; rfl; rfl; (first | exact vpure | exact vread)) | (apply TL.x; rfl; rfl; (first | exact xgrow | exact xput); intro _ _)))
  refine N.ret_bool rfl (by (exact rvx)) ?_
  rw [he]
  cases questionOK q <;> rfl
end Go.Proofs.YtepljgpikfeklaaGreatDoor
namespace Go.Proofs.YtepljgpikfeklaaGreatDoor
set_option linter.unusedVariables false
set_option linter.unusedSimpArgs false
open Go Go.RowKit
open Enc (enc)
set_option maxRecDepth 20000
set_option maxHeartbeats 2000000 in
theorem c_Few06 (z : ZoneV) {H : Hp} {w : World} (hs : Sat H w) (hz : Enc.good H z) : Calls Tryz.prog 16 #[.agg (enc z).toArray] w (Tells w (z.sets.len ≤ 100)) := by
  have hg := hz.2
  have hlen := hg.len
  have hlim := hg.lim
  refine T.enter (vs := [.agg (enc z).toArray]) (H := H) Tryz.func16 rfl rfl rfl hs ?_
  repeat (any_goals (first | refine T.seq ?_ | refine T.region ?_ | refine TL.nil ?_ | refine N.next ?_ | refine T.block ?_ | (apply TL.x; rfl; rfl; (apply X.box (d := 1); rfl; rfl; rfl); intro b1 _) | (apply TL.val; rfl; rfl; (first | exact vpure | exact vread))))
  refine T.loop (G := Nat) (fun i => [(1, .pointer (some ⟨b1, 0, none⟩)), (3, intV i)]) (fun _ => H) (fun _ => [.blk b1 36 (enc z)]) (fun i => i ≤ z.sets.len) (fun i => z.sets.len - i) 0 (Nat.zero_le _) (by (repeat (first | exact True.intro | refine ⟨rfl, ?_⟩ | refine Sub.int rfl (by omega) ?_))) rfl (by (repeat (first | exact List.Sublist.refl _ | exact List.nil_sublist _ | apply List.Sublist.cons_cons | apply List.Sublist.cons))) ?_
  intro i hi
  by_cases hlt : i < z.sets.len ∧ i ≤ 100
  · obtain ⟨hl1, hl2⟩ := hlt
    have hil : i < z.sets.els.length := by omega
    obtain ⟨x, hx⟩ : ∃ x, z.sets.els[i]'hil = x := ⟨_, rfl⟩
    have hxg := hg.els _ (List.getElem_mem hil)
    rw [hx] at hxg
    have hm1 := hxg.1.2.2.2.lim
    have hm2 := hxg.2.lim
    have h3 := hg.cell (k := i) (j := 3) hl1 (v := .slice x.set.data.A x.set.data.len x.set.data.cap) (by show some (Value.slice (z.sets.els[i]'hil).set.data.A (z.sets.els[i]'hil).set.data.len (z.sets.els[i]'hil).set.data.cap) = _; rw [hx])
    have h4 := hg.cell (k := i) (j := 4) hl1 (v := .slice x.sigs.A x.sigs.len x.sigs.cap) (by show some (Value.slice (z.sets.els[i]'hil).sigs.A (z.sets.els[i]'hil).sigs.len (z.sets.els[i]'hil).sigs.cap) = _; rw [hx])
    repeat (any_goals (first | refine T.seq ?_ | refine T.region ?_ | refine TL.nil ?_ | refine N.next ?_ | refine N.inBlock ?_ | refine N.exit_same ?_ | refine N.exit_then ?_ | refine N.ret_then ?_ | refine N.ret_block ?_ | refine T.ret ?_ | refine T.skip ?_ | refine T.exit ?_ | refine T.block ?_ | (apply T.cond_true; rfl) | (apply T.cond_false; rfl) | (apply T.test; rfl; (exact isx); intro _; rotate_left; intro _; rotate_right) | (apply TL.skip; rfl; rfl; rfl) | (apply TL.val; rfl; rfl; (apply V.elem (j := i); (iterate 6 rfl); omega; exact hg.at_ (by omega))) | (apply TL.val; rfl; rfl; (apply V.load_H; rfl; rfl; rfl; first | exact h3 | exact h4)) | (apply TL.val; rfl; rfl; (first | exact vpure | exact vread)) | (apply TL.guard; rfl; rfl; rfl; (exact isx); intro _; rotate_left; intro _; rotate_right)))
    all_goals (try (exfalso; omega))
    all_goals first
      | exact N.tellF rfl (by (exact rvx))
      | exact N.round (i + 1) (by omega) (by show z.sets.len - (i + 1) < z.sets.len - i; omega) (by (repeat (first | exact True.intro | refine ⟨rfl, ?_⟩ | refine Sub.int rfl (by omega) ?_))) rfl (by (repeat (first | exact List.Sublist.refl _ | exact List.nil_sublist _ | apply List.Sublist.cons_cons | apply List.Sublist.cons)))
      | trace_state
  · repeat (any_goals (first | refine T.seq ?_ | refine T.region ?_ | refine TL.nil ?_ | refine N.next ?_ | refine N.inBlock ?_ | refine N.exit_same ?_ | refine N.exit_then ?_ | refine N.ret_then ?_ | refine N.ret_block ?_ | refine T.ret ?_ | refine T.skip ?_ | refine T.exit ?_ | refine T.block ?_ | (apply T.cond_true; rfl) | (apply T.cond_false; rfl) | (apply T.test; rfl; (exact isx); intro _; rotate_left; intro _; rotate_right) | (apply TL.skip; rfl; rfl; rfl) | (apply TL.val; rfl; rfl; (first | exact vpure | exact vread)) | (apply TL.guard; rfl; rfl; rfl; (exact isx); intro _; rotate_left; intro _; rotate_right)))
    all_goals (try (exfalso; omega))
    all_goals exact N.tell rfl (by (exact rvx)) fun hb => by have := of_decide_eq_true hb; omega
end Go.Proofs.YtepljgpikfeklaaGreatDoor
namespace Go.Proofs.YtepljgpikfeklaaGreatDoor
set_option linter.unusedVariables false
set_option linter.unusedSimpArgs false
open Go Go.RowKit
open Enc (enc)
set_option maxRecDepth 20000
structure FewH (h : HistV) : Prop where
  copies : h.copies.len ≤ 20
  sets : ∀ c ∈ h.copies.els, c.zone.sets.len ≤ 100
set_option maxHeartbeats 4000000 in
theorem c_Few21 (h : HistV) {H : Hp} {w : World} (hs : Sat H w) (hh : Enc.good H h) : Calls Tryz.prog 5 #[.agg (enc h).toArray] w (Tells w (FewH h)) := by
  obtain ⟨g1, g2, g3, g4, g5, g6⟩ := hh
  have hl1 := g1.len
  have hl2 := g2.len
  have hm1 := g1.lim
  have hm2 := g2.lim
  have hm3 := g4.lim
  have hm4 := g3.2.2.2.lim
  refine T.enter (vs := [.agg (enc h).toArray]) (H := H) Tryz.func5 rfl rfl rfl hs ?_
  repeat (any_goals (first | refine T.seq ?_ | refine T.region ?_ | refine TL.nil ?_ | refine N.next ?_ | refine T.block ?_ | (apply TL.x; rfl; rfl; (apply X.box (d := 1); rfl; rfl; rfl); intro b1 _) | (apply TL.val; rfl; rfl; (first | exact vpure | exact vread))))
  refine T.loop (G := Nat) (fun i => [(1, .pointer (some ⟨b1, 0, none⟩)), (3, intV i)]) (fun _ => H) (fun _ => [.blk b1 29 (enc h)]) (fun i => i ≤ h.copies.len ∧ ∀ j (hj : j < h.copies.els.length), j < i → h.copies.els[j].zone.sets.len ≤ 100) (fun i => h.copies.len - i) 0 ⟨Nat.zero_le _, fun j _ h => by omega⟩ (by (repeat (first | exact True.intro | refine ⟨rfl, ?_⟩ | refine Sub.int rfl (by omega) ?_))) rfl (by (repeat (first | exact List.Sublist.refl _ | exact List.nil_sublist _ | apply List.Sublist.cons_cons | apply List.Sublist.cons))) ?_
  rintro i ⟨hi, hrel⟩
  by_cases hlt : i < h.copies.len ∧ i ≤ 20
  · obtain ⟨hlt1, hlt2⟩ := hlt
    have hil : i < h.copies.els.length := by omega
    obtain ⟨x, hx⟩ : ∃ x, h.copies.els[i]'hil = x := ⟨_, rfl⟩
    have hxg := g2.els _ (List.getElem_mem hil)
    have hxl : (h.copies.els[i]'hil).zone.apex.length ≤ 9223372036854775807 := hxg.2.2.2.1
    rw [hx] at hxg hxl
    have h3 := g2.cell (k := i) (j := 3) hlt1 (v := strV x.zone.apex) (by show some (strV (h.copies.els[i]'hil).zone.apex) = _; rw [hx])
    have hrow := g2.part (k := i) (j := 3) (m := 2) hlt1 (vs := enc (h.copies.els[i]'hil).zone) rfl
    rw [hx] at hrow
    repeat (any_goals (first | refine T.seq ?_ | refine T.region ?_ | refine TL.nil ?_ | refine N.next ?_ | refine N.inBlock ?_ | refine N.exit_same ?_ | refine N.exit_then ?_ | refine N.ret_then ?_ | refine N.ret_block ?_ | refine T.ret ?_ | refine T.skip ?_ | refine T.exit ?_ | refine T.block ?_ | (apply T.cond_true; rfl) | (apply T.cond_false; rfl) | (apply T.test; rfl; (exact isx); intro _; rotate_left; intro _; rotate_right) | (apply TL.skip; rfl; rfl; rfl) | (apply TL.val; rfl; rfl; (apply V.elem (j := i); (iterate 6 rfl); omega; exact g2.at_ (by omega))) | (apply TL.val; rfl; rfl; (apply V.load_H_row; rfl; rfl; rfl; exact hrow; rfl)) | (apply TL.val; rfl; rfl; (apply V.load_H; rfl; rfl; rfl; exact h3)) | (apply TL.x; rfl; rfl; (apply X.callG (f := 16) [.agg (enc x.zone).toArray] Tryz.call16; rfl; rfl; rfl; exact (fun _ hs => c_Few06 x.zone hs.sat hxg.2.2.2)); intro v1 hv1) | (apply TL.val; rfl; rfl; (first | exact vpure | exact vread)) | (apply TL.guard; rfl; rfl; rfl; (exact isx); intro _; rotate_left; intro _; rotate_right)))
    all_goals (try contradiction)
    all_goals (try (exfalso; omega))
    all_goals first
      | exact N.tellF rfl (by (exact rvx))
      | (refine N.round (i + 1) ⟨by omega, fun j hj hjk => ?_⟩ (by show h.copies.len - (i + 1) < h.copies.len - i; omega) (by (repeat (first | exact True.intro | refine ⟨rfl, ?_⟩ | refine Sub.int rfl (by omega) ?_))) rfl (by (repeat (first | exact List.Sublist.refl _ | exact List.nil_sublist _ | apply List.Sublist.cons_cons | apply List.Sublist.cons)))
         by_cases e : j = i
         · subst e
           rw [hx]
           exact hv1 (by assumption)
         · exact hrel j hj (by omega))
      | trace_state
  · repeat (any_goals (first | refine T.seq ?_ | refine T.region ?_ | refine TL.nil ?_ | refine N.next ?_ | refine N.exit_same ?_ | refine N.exit_then ?_ | refine T.skip ?_ | refine T.exit ?_ | refine T.block ?_ | (apply T.cond_false; rfl) | (apply T.test; rfl; (exact isx); intro _; rotate_left; intro _; rotate_right) | (apply TL.skip; rfl; rfl; rfl) | (apply TL.val; rfl; rfl; (first | exact vpure | exact vread)) | (apply TL.guard; rfl; rfl; rfl; (exact isx); intro _; rotate_left; intro _; rotate_right)))
    all_goals (try (exfalso; omega))
    all_goals
      refine T.loop (G := Nat) (fun i => [(1, .pointer (some ⟨b1, 0, none⟩)), (4, intV i)]) (fun _ => H) (fun _ => [.blk b1 29 (enc h)]) (fun i => i ≤ h.hosts.len) (fun i => h.hosts.len - i) 0 (Nat.zero_le _) (by (repeat (first | exact True.intro | refine ⟨rfl, ?_⟩ | refine Sub.int rfl (by omega) ?_))) rfl (by (repeat (first | exact List.Sublist.refl _ | exact List.nil_sublist _ | apply List.Sublist.cons_cons | apply List.Sublist.cons))) ?_
      intro k hk
      by_cases hlt2 : k < h.hosts.len ∧ k ≤ 70
      · obtain ⟨hk1, hk2⟩ := hlt2
        have hkl : k < h.hosts.els.length := by omega
        obtain ⟨y, hy⟩ : ∃ y, h.hosts.els[k]'hkl = y := ⟨_, rfl⟩
        have hyl : (h.hosts.els[k]'hkl).name.length ≤ 9223372036854775807 := (g1.els _ (List.getElem_mem hkl)).1
        rw [hy] at hyl
        have h0 := g1.cell (k := k) (j := 0) hk1 (v := strV y.name) (by show some (strV (h.hosts.els[k]'hkl).name) = _; rw [hy])
        repeat (any_goals (first | refine T.seq ?_ | refine T.region ?_ | refine TL.nil ?_ | refine N.next ?_ | refine N.inBlock ?_ | refine N.exit_same ?_ | refine N.exit_then ?_ | refine N.ret_then ?_ | refine N.ret_block ?_ | refine T.ret ?_ | refine T.skip ?_ | refine T.exit ?_ | refine T.block ?_ | (apply T.cond_false; rfl) | (apply T.test; rfl; (exact isx); intro _; rotate_left; intro _; rotate_right) | (apply TL.skip; rfl; rfl; rfl) | (apply TL.val; rfl; rfl; (apply V.elem (j := k); (iterate 6 rfl); omega; exact g1.at_ (by omega))) | (apply TL.val; rfl; rfl; (apply V.load_H; rfl; rfl; rfl; exact h0)) | (apply TL.val; rfl; rfl; (first | exact vpure | exact vread)) | (apply TL.guard; rfl; rfl; rfl; (exact isx); intro _; rotate_left; intro _; rotate_right)))
        all_goals (try (exfalso; omega))
        all_goals first
          | exact N.tellF rfl (by (exact rvx))
          | exact N.round (k + 1) (by omega) (by show h.hosts.len - (k + 1) < h.hosts.len - k; omega) (by (repeat (first | exact True.intro | refine ⟨rfl, ?_⟩ | refine Sub.int rfl (by omega) ?_))) rfl (by (repeat (first | exact List.Sublist.refl _ | exact List.nil_sublist _ | apply List.Sublist.cons_cons | apply List.Sublist.cons)))
          | trace_state
      · by_cases hc : h.copies.len ≤ 20
        · have hfe : FewH h := ⟨hc, fun c hcm => by
            obtain ⟨j, hj, rfl⟩ := List.mem_iff_getElem.1 hcm
            exact hrel j hj (by omega)⟩
          repeat (any_goals (first | refine T.seq ?_ | refine T.region ?_ | refine TL.nil ?_ | refine N.next ?_ | refine N.inBlock ?_ | refine N.exit_same ?_ | refine N.exit_then ?_ | refine N.ret_then ?_ | refine N.ret_block ?_ | refine T.ret ?_ | refine T.skip ?_ | refine T.exit ?_ | refine T.block ?_ | (apply T.cond_false; rfl) | (apply T.test; rfl; (exact isx); intro _; rotate_left; intro _; rotate_right) | (apply TL.skip; rfl; rfl; rfl) | (apply TL.val; rfl; rfl; (first | exact vpure | exact vread)) | (apply TL.guard; rfl; rfl; rfl; (exact isx); intro _; rotate_left; intro _; rotate_right)))
          all_goals (try (exfalso; omega))
          all_goals exact N.tell rfl (by (exact rvx)) fun _ => hfe
        · repeat (any_goals (first | refine T.seq ?_ | refine T.region ?_ | refine TL.nil ?_ | refine N.next ?_ | refine N.inBlock ?_ | refine N.exit_same ?_ | refine N.exit_then ?_ | refine N.ret_then ?_ | refine N.ret_block ?_ | refine T.ret ?_ | refine T.skip ?_ | refine T.exit ?_ | refine T.block ?_ | (apply T.cond_false; rfl) | (apply T.test; rfl; (exact isx); intro _; rotate_left; intro _; rotate_right) | (apply TL.skip; rfl; rfl; rfl) | (apply TL.val; rfl; rfl; (first | exact vpure | exact vread)) | (apply TL.guard; rfl; rfl; rfl; (exact isx); intro _; rotate_left; intro _; rotate_right)))
          all_goals (try (exfalso; omega))
          all_goals exact N.tellF rfl (by (exact rvx))
end Go.Proofs.YtepljgpikfeklaaGreatDoor
