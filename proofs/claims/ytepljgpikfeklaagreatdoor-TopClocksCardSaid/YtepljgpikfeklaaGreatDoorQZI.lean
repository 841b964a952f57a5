import Derived.Test.YtepljgpikfeklaaGreatDoorQZX
import Derived.Test.YtepljgpikfeklaaGreatDoorQVO
namespace Go.Proofs.YtepljgpikfeklaaGreatDoor
set_option linter.unusedVariables false
set_option linter.unusedSimpArgs false
open Go Go.RowKit
open Enc (enc)
set_option maxRecDepth 20000
structure CopyOK (n : Nat) (e : Int) (c : CopyV) : Prop where
  host : 0 ≤ c.host ∧ c.host < n
  frm : 0 ≤ c.frm
  til : c.frm < c.til
  fin : c.til ≤ e
  zone : ZonedR c.zone.c
def ApartC (c d : CopyV) : Prop := ¬ (d.host = c.host ∧ d.zone.apex = c.zone.apex ∧ d.frm < c.til ∧ c.frm < d.til)
def CopiesTo (h : HistV) (k : Nat) : Prop := ∀ i (hi : i < h.copies.els.length), i < k → CopyOK h.hosts.els.length h.fin h.copies.els[i] ∧ ∀ j (hj : j < i), ApartC h.copies.els[i] (h.copies.els[j]'(by omega))
structure HistOK (h : HistV) : Prop where
  hosts : HostsOK h.hosts.els
  roots : RootsOK h.anchor h.hints.els
  fin : 1 ≤ h.fin ∧ h.fin ≤ 10000000
  drift : 0 ≤ h.drift ∧ h.drift ≤ 1000
  few : h.copies.els.length ≤ 4000
  each : CopiesTo h h.copies.els.length
  apexes : (apexesC (apexesOf h.copies.els)).length ≤ 500
set_option maxHeartbeats 8000000 in
theorem c_Valid21 (h : HistV) {H : Hp} {w : World} (hs : Sat H w) (hh : Enc.good H h) : Calls Tryz.prog 6 #[.agg (enc h).toArray] w (Tells w (HistOK h)) := by
  obtain ⟨g1, g2, g3, g4, g5, g6⟩ := hh
  have hl1 := g1.len
  have hl2 := g2.len
  have hm1 := g1.lim
  have hm2 := g2.lim
  refine T.enter (vs := [.agg (enc h).toArray]) (H := H) Tryz.func6 rfl rfl rfl hs ?_
  repeat (any_goals (first | refine T.seq ?_ | refine T.region ?_ | refine TL.nil ?_ | refine N.next ?_ | refine N.ret_then ?_ | refine T.ret ?_ | refine T.skip ?_ | refine T.block ?_ | (apply T.cond_true; rfl) | (apply T.test; rfl; (exact isx); intro _; rotate_left; intro _; rotate_right) | (apply TL.skip; rfl; rfl; rfl) | (apply TL.x; rfl; rfl; (apply X.box (d := 1); rfl; rfl; rfl); intro b1 _) | (apply TL.x; rfl; rfl; (apply X.callG (f := 17) [h.hosts.v] Tryz.call17; rfl; rfl; rfl; exact (fun _ hs => c_Hosts16 h.hosts hs.sat g1)); intro v1 hv1) | (apply TL.x; rfl; rfl; (apply X.callG (f := 18) [.agg (enc h.anchor).toArray, h.hints.v] Tryz.call18; rfl; rfl; rfl; exact (fun _ hs => c_Roots16 h.anchor h.hints hs.sat g3 g4)); intro v2 hv2) | (apply TL.val; rfl; rfl; (first | exact vpure | exact vread)) | (apply TL.guard; rfl; rfl; rfl; (exact isx); intro _; rotate_left; intro _; rotate_right)))
  all_goals (try contradiction)
  all_goals (try (exact N.tellF rfl (by (exact rvx))))
  have k1 := hv1 (by assumption)
  have k2 := hv2 (by assumption)
  refine T.loop (G := Nat) (fun i => [(1, .pointer (some ⟨b1, 0, none⟩)), (3, intV i)]) (fun _ => H) (fun _ => [.blk b1 29 (enc h)]) (fun i => i ≤ h.copies.len ∧ CopiesTo h i) (fun i => h.copies.len - i) 0 ⟨Nat.zero_le _, fun j _ h => by omega⟩ (by (repeat (first | exact True.intro | refine ⟨rfl, ?_⟩ | refine Sub.int rfl (by omega) ?_))) rfl (by (repeat (first | exact List.Sublist.refl _ | exact List.nil_sublist _ | apply List.Sublist.cons_cons | apply List.Sublist.cons))) ?_
  rintro i ⟨hi, hrel⟩
  by_cases hlt : i < h.copies.len
  · have hil : i < h.copies.els.length := by omega
    have hxg := g2.els _ (List.getElem_mem hil)
    have hrow := g2.row (k := i) hlt
    obtain ⟨x, hx⟩ : ∃ x, h.copies.els[i]'hil = x := ⟨_, rfl⟩
    rw [hx] at hxg
    try rw [hx] at hrow
    repeat (any_goals (first | refine T.seq ?_ | refine T.region ?_ | refine TL.nil ?_ | refine N.next ?_ | refine N.exit_same ?_ | refine N.exit_then ?_ | refine N.ret_then ?_ | refine N.ret_block ?_ | refine T.ret ?_ | refine T.skip ?_ | refine T.exit ?_ | refine T.block ?_ | (apply T.cond_true; rfl) | (apply T.test; rfl; (exact isx); intro _; rotate_left; intro _; rotate_right) | (apply TL.skip; rfl; rfl; rfl) | (apply TL.val; rfl; rfl; (apply V.elem (j := i); (iterate 6 rfl); omega; exact g2.at_ (by omega))) | (apply TL.val; rfl; rfl; (apply V.load_H_row; rfl; rfl; rfl; exact hrow; rfl)) | (apply TL.x; rfl; rfl; (apply X.alloc (d := 4); rfl; rfl; rfl); intro b4 _) | (apply TL.x; rfl; rfl; (apply X.storeTo 0 (enc x); (iterate 10 rfl)); intro _ _) | (apply TL.x; rfl; rfl; (apply X.callG (f := 19) [.agg (enc x.zone).toArray] Tryz.call19; rfl; rfl; rfl; exact (fun _ hs => c_Valid06 x.zone hs.sat hxg.2.2.2)); intro v3 hv3) | (apply TL.val; rfl; rfl; (first | exact vpure | exact vread)) | (apply TL.guard; rfl; rfl; rfl; (exact isx); intro _; rotate_left; intro _; rotate_right)))
    all_goals (try contradiction)
    all_goals (try (exfalso; omega))
    all_goals (try (exact N.tellF rfl (by (exact rvx))))
    have k3 := hv3 (by assumption)
    refine T.loop (G := Nat) (fun k => [(1, .pointer (some ⟨b1, 0, none⟩)), (3, intV i), (4, .pointer (some ⟨b4, 0, none⟩)), (5, intV k)]) (fun _ => H) (fun _ => [.blk b4 38 (enc x), .blk b1 29 (enc h)]) (fun k => k ≤ i ∧ ∀ j (hj : j < h.copies.els.length), j < k → ApartC x h.copies.els[j]) (fun k => i - k) 0 ⟨Nat.zero_le _, fun j _ h => by omega⟩ (by (repeat (first | exact True.intro | refine ⟨rfl, ?_⟩ | refine Sub.int rfl (by omega) ?_))) rfl (by (repeat (first | exact List.Sublist.refl _ | exact List.nil_sublist _ | apply List.Sublist.cons_cons | apply List.Sublist.cons))) ?_
    rintro k ⟨hk, hk2⟩
    by_cases hkl : k < i
    · have hkl' : k < h.copies.els.length := by omega
      have hrowy := g2.row (k := k) (by omega)
      obtain ⟨y, hy⟩ : ∃ y, h.copies.els[k]'hkl' = y := ⟨_, rfl⟩
      try rw [hy] at hrowy
      have hap : ApartC x y → ∀ j (hj : j < h.copies.els.length), j < k + 1 → ApartC x h.copies.els[j] := fun ha j hj hjk => by
        by_cases e : j = k
        · subst e; rw [hy]; exact ha
        · exact hk2 j hj (by omega)
      repeat (any_goals (first | refine T.seq ?_ | refine T.region ?_ | refine TL.nil ?_ | refine N.next ?_ | refine N.inBlock ?_ | refine N.exit_same ?_ | refine N.exit_then ?_ | refine N.ret_then ?_ | refine N.ret_block ?_ | refine T.ret ?_ | refine T.skip ?_ | refine T.exit ?_ | refine T.block ?_ | (apply T.cond_false; rfl) | (apply T.test; rfl; (exact isx); intro _; rotate_left; intro _; rotate_right) | (apply TL.skip; rfl; rfl; rfl) | (apply TL.val; rfl; rfl; (apply V.elem (j := k); (iterate 6 rfl); omega; exact g2.at_ (by omega))) | (apply TL.val; rfl; rfl; (apply V.load_H_row; rfl; rfl; rfl; exact hrowy; rfl)) | (apply TL.x; rfl; rfl; (apply X.alloc (d := 6); rfl; rfl; rfl); intro b6 _) | (apply TL.x; rfl; rfl; (apply X.storeTo 0 (enc y); (iterate 10 rfl)); intro _ _) | (apply TL.val; rfl; rfl; (first | exact vpure | exact vread)) | (apply TL.guard; rfl; rfl; rfl; (exact isx); intro _; rotate_left; intro _; rotate_right)))
      all_goals (try contradiction)
      all_goals (try (exfalso; omega))
      all_goals first
        | exact N.tellF rfl (by (exact rvx))
        | exact N.round (k + 1) ⟨by omega, hap (by unfold ApartC; rintro ⟨a1, a2, a3, a4⟩; first | contradiction | omega)⟩ (by show i - (k + 1) < i - k; omega) (by (repeat (first | exact True.intro | refine ⟨rfl, ?_⟩ | refine Sub.int rfl (by omega) ?_))) rfl (by (repeat (first | exact List.Sublist.refl _ | exact List.nil_sublist _ | apply List.Sublist.cons_cons | apply List.Sublist.cons)))
        | trace_state
    · have hki : k = i := by omega
      subst hki
      repeat (any_goals (first | refine T.seq ?_ | refine T.region ?_ | refine TL.nil ?_ | refine N.next ?_ | refine N.inBlock ?_ | refine N.exit_same ?_ | refine N.exit_then ?_ | refine N.ret_then ?_ | refine N.ret_block ?_ | refine T.ret ?_ | refine T.skip ?_ | refine T.exit ?_ | refine T.block ?_ | (apply T.cond_false; rfl) | (apply T.test; rfl; (exact isx); intro _; rotate_left; intro _; rotate_right) | (apply TL.skip; rfl; rfl; rfl) | (apply TL.val; rfl; rfl; (first | exact vpure | exact vread)) | (apply TL.x; rfl; rfl; (first | exact xgrow | exact xput); intro _ _) | (apply TL.guard; rfl; rfl; rfl; (exact isx); intro _; rotate_left; intro _; rotate_right)))
      all_goals (try (exfalso; omega))
      refine N.round (k + 1) ⟨by omega, fun j hj hjk => ?_⟩ (by show h.copies.len - (k + 1) < h.copies.len - k; omega) (by (repeat (first | exact True.intro | refine ⟨rfl, ?_⟩ | refine Sub.int rfl (by omega) ?_))) rfl (by (repeat (first | exact List.Sublist.refl _ | exact List.nil_sublist _ | apply List.Sublist.cons_cons | apply List.Sublist.cons)))
      by_cases e : j = k
      · subst e
        simp only [hx]
        exact ⟨⟨⟨by omega, by omega⟩, by omega, by omega, by omega, k3⟩, fun m hm => hk2 m (by omega) hm⟩
      · exact hrel j hj (by omega)
  · have hie : i = h.copies.len := by omega
    subst hie
    have hn : ∀ c ∈ h.copies.els, nameOK c.zone.apex = true := fun c hc => by
      obtain ⟨j, hj, rfl⟩ := List.mem_iff_getElem.1 hc
      exact (hrel j hj (by omega)).1.zone.one.apexOK
    repeat (any_goals (first | refine T.seq ?_ | refine T.region ?_ | refine TL.nil ?_ | refine N.next ?_ | refine N.exit_same ?_ | refine N.exit_then ?_ | refine N.ret_then ?_ | refine N.ret_block ?_ | refine T.ret ?_ | refine T.skip ?_ | refine T.exit ?_ | refine T.block ?_ | (apply T.cond_true; rfl) | (apply T.test; rfl; (exact isx); intro _; rotate_left; intro _; rotate_right) | (apply TL.skip; rfl; rfl; rfl) | (apply TL.x; rfl; rfl; (apply X.callFE (f := 20) [h.copies.v] Tryz.call20; rfl; rfl; rfl; exact (fun _ hs => c_Apexes21 h.copies (by omega) hn hs.sat g2)); intro p hp) | (apply TL.val; rfl; rfl; (first | exact vpure | exact vread)) | (apply TL.x; rfl; rfl; (first | exact xgrow | exact xput); intro _ _) | (apply TL.guard; rfl; rfl; rfl; (exact isx); intro _; rotate_left; intro _; rotate_right)))
    all_goals (try (exfalso; omega))
    have hpl := hp.1.2.len
    rw [hp.1.1] at hpl
    refine N.tell rfl (by (exact rvx)) fun hb => ?_
    have hb := of_decide_eq_true hb
    exact ⟨k1, k2, ⟨by omega, by omega⟩, ⟨by omega, by omega⟩, by omega, by rw [hl2]; exact hrel, by omega⟩
end Go.Proofs.YtepljgpikfeklaaGreatDoor
namespace Go.Proofs.YtepljgpikfeklaaGreatDoor
set_option linter.unusedVariables false
set_option linter.unusedSimpArgs false
open Go Go.RowKit
open Enc (enc)
set_option maxRecDepth 20000
theorem star_take {z : Bytes} (h : nameOK z = true) (hs : starN z = false) : decide (z.take ([42] : Bytes).length = [42]) = false := by
  rw [decide_eq_false_iff_not]
  intro ht
  rcases z with _ | ⟨c, r⟩
  · simp at ht
  · simp only [List.length_cons, List.length_nil, Nat.zero_add, List.take_succ_cons, List.take_zero, List.cons.injEq, and_true] at ht
    subst ht
    have hd : (42 :: r : Bytes) ≠ [46] := by simp
    obtain ⟨p, q, hp⟩ : ∃ p q, splitDots (42 :: r) = (42 :: p) :: q := by
      unfold splitDots
      rw [if_neg (by decide)]
      cases splitDots r with
      | nil => exact ⟨[], [], rfl⟩
      | cons p q => exact ⟨p, q, rfl⟩
    have hst : (42 :: p : Bytes) ≠ [42] := fun e => by
      unfold starN parts at hs
      rw [if_neg hd, hp] at hs
      simp [e] at hs
    rcases (nameOK_iff _).1 h with h1 | ⟨_, h1⟩
    · exact hd h1
    · have h2 := h1.2 q.length (by rw [hp]; simp)
      have h3 : ∀ hl, (splitDots (42 :: r)).reverse[q.length]'hl = 42 :: p := fun hl => by simp [hp]
      rw [h3] at h2
      rcases h2 with h2 | ⟨_, h2⟩
      · unfold isLab isWord at h2
        rw [decide_eq_true_iff] at h2
        have := h2.2.2 0 (by simp)
        revert this
        unfold WordAt
        simp
      · exact hst h2
def cmpN (a : Bytes) (s : Int) (b : Bytes) (t : Int) : Int := if a = b then cmpI s t else ordN a b
set_option maxHeartbeats 1000000 in
theorem c_comparePlaces (a b : Bytes) (s t : Int) (ha : nameOK a = true) (hb : nameOK b = true) {H : Hp} {w : World} (hs : Sat H w) : Calls Tryz.prog 151 #[strV a, intV s, strV b, intV t] w (Ret w (intV (cmpN a s b t))) := by
  refine T.enter (vs := [strV a, intV s, strV b, intV t]) (H := H) Tryz.func151 rfl rfl rfl hs ?_
  by_cases e : a = b
  · rw [show cmpN a s b t = cmpI s t by unfold cmpN; rw [if_pos e]]
    repeat (any_goals (first | refine T.seq ?_ | refine T.region ?_ | refine TL.nil ?_ | refine N.next ?_ | refine N.ret_then ?_ | refine T.ret ?_ | refine T.skip ?_ | (apply T.test; rfl; (exact isx); intro _; rotate_left; intro _; rotate_right) | (apply TL.callE (f := 126) [strV a, strV b] Tryz.call126; (iterate 4 rfl); (exact fun _ hs => c_CompareN a b ha hb hs.sat)) | (apply TL.callE (f := 67) [intV s, intV t] Tryz.call67; (iterate 4 rfl); (exact fun _ hs => c_cmpI _ _ _ _ hs.sat)) | (apply TL.val; rfl; rfl; (first | exact vpure | exact vread))))
    all_goals (try contradiction)
    exact N.ret_int rfl (by (exact rvx)) rfl
  · rw [show cmpN a s b t = ordN a b by unfold cmpN; rw [if_neg e]]
    repeat (any_goals (first | refine T.seq ?_ | refine T.region ?_ | refine TL.nil ?_ | refine N.next ?_ | refine N.ret_then ?_ | refine T.ret ?_ | refine T.skip ?_ | (apply T.test; rfl; (exact isx); intro _; rotate_left; intro _; rotate_right) | (apply TL.callE (f := 126) [strV a, strV b] Tryz.call126; (iterate 4 rfl); (exact fun _ hs => c_CompareN a b ha hb hs.sat)) | (apply TL.callE (f := 67) [intV s, intV t] Tryz.call67; (iterate 4 rfl); (exact fun _ hs => c_cmpI _ _ _ _ hs.sat)) | (apply TL.val; rfl; rfl; (first | exact vpure | exact vread))))
    all_goals (try contradiction)
    exact N.ret_int rfl (by (exact rvx)) rfl
def cmpQ (x : Signed) (q : Question) : Int := cmpN x.set.name x.set.typ q.name q.typ
theorem c_find1 (x : Signed) (q : Question) (hx : nameOK x.set.name = true) (hq : nameOK q.name = true) {H : Hp} {w : World} (hs : Sat H w) : Calls Tryz.prog 185 #[.agg (enc x).toArray, .agg (enc q).toArray] w (Ret w (intV (cmpQ x q))) := by
  refine T.enter (vs := [.agg (enc x).toArray, .agg (enc q).toArray]) (H := H) Tryz.func185 rfl rfl rfl hs ?_
  repeat (any_goals (first | refine T.seq ?_ | refine T.region ?_ | refine TL.nil ?_ | refine N.next ?_ | refine T.ret ?_ | (apply TL.callE (f := 151) [strV x.set.name, intV x.set.typ, strV q.name, intV q.typ] Tryz.call151; (iterate 4 rfl); (exact fun _ hs => c_comparePlaces _ _ _ _ hx hq hs.sat)) | (apply TL.val; rfl; rfl; (first | exact vpure | exact vread)) | (apply TL.x; rfl; rfl; (first | exact xgrow | exact xput); intro _ _)))
  exact N.ret_int rfl (by (exact rvx)) rfl
structure FoundAt (els : List Signed) (q : Question) (r : Nat) : Prop where
  lt : r < els.length
  eq : cmpQ (els[r]'lt) q = 0
  lo : ∀ j (h : j < els.length), j < r → cmpQ els[j] q < 0
  hi : ∀ j (h : j < els.length), r ≤ j → ¬ cmpQ els[j] q < 0
set_option maxHeartbeats 2000000 in
theorem c_searchZ (s : Slc Signed) (q : Question) (r : Nat) (hn : ∀ x ∈ s.els, nameOK x.set.name = true) (hq : nameOK q.name = true) {H : Hp} {w : World} (hs : Sat H w) (hg : s.Good H) (hr : FoundAt s.els q r) (hb : s.len ≤ 20000) : Calls Tryz.prog 184 #[s.v, .agg (enc q).toArray, .func (.func 185) #[] #[]] w (Ret w (.tuple #[intV r, .bool true])) := by
  have hlen : s.els.length = s.len := hg.len
  obtain ⟨hr0, hr1, hr2, hr3⟩ := hr
  refine T.enter (vs := [s.v, .agg (enc q).toArray, .func (.func 185) #[] #[]]) (H := H) Tryz.func184 rfl rfl rfl hs ?_
  repeat (any_goals (first | refine T.seq ?_ | refine T.region ?_ | refine TL.nil ?_ | refine N.next ?_ | refine T.block ?_ | (apply TL.val; rfl; rfl; (first | exact vpure | exact vread)) | (apply TL.x; rfl; rfl; (first | exact xgrow | exact xput); intro _ _)))
  rename_i b _
  refine T.loop (G := Nat × Nat) (fun g => [(0, s.v), (2, .func (.func 185) #[] #[]), (4, .pointer (some ⟨b, 0, none⟩)), (8, intV s.len), (9, intV g.1), (10, intV g.2)]) (fun _ => H) (fun _ => [.blk b 56 (enc q)]) (fun g => g.1 ≤ r ∧ r ≤ g.2 ∧ g.2 ≤ s.len) (fun g => g.2 - g.1) (0, s.len) ⟨Nat.zero_le _, by omega, Nat.le_refl _⟩ (by (repeat (first | exact True.intro | refine ⟨rfl, ?_⟩ | refine Sub.int rfl (by omega) ?_))) rfl (by (first | exact List.Sublist.refl _ | exact List.nil_sublist _ | exact List.Sublist.cons _ (List.Sublist.refl _) | exact List.Sublist.cons _ (List.Sublist.cons _ (List.Sublist.refl _)))) ?_
  rintro ⟨i, j⟩ ⟨hi, hj, hjl⟩
  simp only at hi hj hjl ⊢
  repeat (any_goals (first | refine T.seq ?_ | refine T.region ?_ | (apply T.regionD wide; rfl) | refine TL.nil ?_ | refine N.next ?_ | refine N.inBlock ?_ | refine N.exit_same ?_ | refine N.exit_then ?_ | refine T.ret ?_ | refine T.skip ?_ | refine T.exit ?_ | refine T.block ?_ | (apply T.test; rfl; (exact isx); intro _; rotate_left; intro _; rotate_right) | (apply GT.skip; rfl; rfl; rfl; decide +kernel) | (apply TL.val; rfl; rfl; (apply V.half; rfl; rfl)) | (apply TL.val; rfl; rfl; (apply V.conv; (iterate 4 rfl); exact IntWalk.u64_in _ (by constructor <;> omega))) | (apply TL.val; rfl; rfl; (apply V.conv; (iterate 4 rfl); exact wrap_i64 (by constructor <;> omega))) | (apply GT.call; (iterate 6 rfl); exact Tryz.call185; exact fun _ hs => c_find1 _ _ (hn _ (List.getElem_mem _)) hq hs.sat; decide +kernel) | (apply TL.val; rfl; rfl; (first | exact vpure | exact vread)) | (apply GT.pure; (iterate 4 rfl); (first | exact vpure); decide +kernel) | (apply GT.read; (iterate 4 rfl); (first | exact vpure | exact vread); decide +kernel) | (apply GT.done; decide +kernel; apply N.ofQ) | (apply GT.guard; (iterate 4 rfl); (exact isx); intro _; rotate_left; intro _; rotate_right)))
  all_goals first
    | (refine N.round ((i + j) / 2 + 1, j) ?_ ?_ (by (repeat (first | exact True.intro | refine ⟨rfl, ?_⟩ | refine Sub.int rfl (by omega) ?_))) rfl (by (first | exact List.Sublist.refl _ | exact List.nil_sublist _ | exact List.Sublist.cons _ (List.Sublist.refl _) | exact List.Sublist.cons _ (List.Sublist.cons _ (List.Sublist.refl _))))
       · have : (i + j) / 2 < r := Nat.lt_of_not_le fun h => hr3 _ (by omega) h (by assumption)
         exact ⟨by show (i + j) / 2 + 1 ≤ r; omega, hj, hjl⟩
       · show j - ((i + j) / 2 + 1) < j - i; omega)
    | (refine N.round (i, (i + j) / 2) ?_ ?_ (by (repeat (first | exact True.intro | refine ⟨rfl, ?_⟩ | refine Sub.int rfl (by omega) ?_))) rfl (by (first | exact List.Sublist.refl _ | exact List.nil_sublist _ | exact List.Sublist.cons _ (List.Sublist.refl _) | exact List.Sublist.cons _ (List.Sublist.cons _ (List.Sublist.refl _))))
       · have : r ≤ (i + j) / 2 := Nat.le_of_not_lt fun h => (by assumption : ¬ cmpQ (s.els[(i + j) / 2]'(by omega)) q < 0) (hr2 _ (by omega) h)
         exact ⟨hi, this, by show (i + j) / 2 ≤ s.len; omega⟩
       · show (i + j) / 2 - i < j - i; omega)
    | (obtain rfl : i = r := by omega
       first
         | (exfalso; omega)
         | (apply N.ret2; rfl; (exact rvx); (exact rvx)
            intro w1 hst
            refine ⟨?_, hst.below⟩
            simp only [hr1]
            rfl))
theorem c_findZ (z : ZoneV) (q : Question) (r : Nat) (hn : ∀ x ∈ z.sets.els, nameOK x.set.name = true) (hq : nameOK q.name = true) {H : Hp} {w : World} (hs : Sat H w) (hz : Enc.good H z) (hr : FoundAt z.sets.els q r) (hb : z.sets.len ≤ 20000) : Calls Tryz.prog 152 #[.agg (enc z).toArray, .agg (enc q).toArray] w (Ret w (.tuple #[intV r, .bool true])) := by
  refine T.enter (vs := [.agg (enc z).toArray, .agg (enc q).toArray]) (H := H) Tryz.func152 rfl rfl rfl hs ?_
  repeat (any_goals (first | refine T.seq ?_ | refine T.region ?_ | refine TL.nil ?_ | refine N.next ?_ | refine T.ret ?_ | (apply TL.callE (f := 184) [z.sets.v, .agg (enc q).toArray, .func (.func 185) #[] #[]] Tryz.call184; (iterate 4 rfl); (exact fun _ hs => c_searchZ z.sets q r hn hq hs.sat hz.2 hr hb)) | (apply TL.val; rfl; rfl; (first | exact vpure | exact vread)) | (apply TL.x; rfl; rfl; (first | exact xgrow | exact xput); intro _ _)))
  exact N.ret_two rfl (by (exact rvx)) (by (exact rvx)) rfl
theorem c_fitsApex (t : Int) (b : Bool) {H : Hp} {w : World} (hs : Sat H w) : Calls Tryz.prog 153 #[intV t, .bool b] w (Ret w (.bool (placedOK t b))) := by
  refine T.enter (vs := [intV t, .bool b]) (H := H) Tryz.func153 rfl rfl rfl hs ?_
  repeat (any_goals (first | refine T.seq ?_ | refine T.region ?_ | refine TL.nil ?_ | refine N.next ?_ | refine N.inBlock ?_ | refine N.ret_then ?_ | refine N.ret_block ?_ | refine T.ret ?_ | refine T.skip ?_ | refine T.block ?_ | (apply T.test; rfl; (exact isx); intro _; rotate_left; intro _; rotate_right) | (apply TL.val; rfl; rfl; (first | exact vpure | exact vread))))
  all_goals (try (first | (apply N.ret_bool; rfl; (exact rvx)) | (apply N.ret_int; rfl; (exact rvx)) | (apply N.ret_val; rfl; (exact rvx))))
  all_goals (unfold placedOK; grind)
end Go.Proofs.YtepljgpikfeklaaGreatDoor
