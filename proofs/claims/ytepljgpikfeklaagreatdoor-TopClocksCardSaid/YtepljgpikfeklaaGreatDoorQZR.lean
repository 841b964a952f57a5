import Derived.Test.YtepljgpikfeklaaGreatDoorQNK
namespace Go.Proofs.YtepljgpikfeklaaGreatDoor
set_option linter.unusedVariables false
set_option linter.unusedSimpArgs false
open Go Go.RowKit
open Enc (enc)
set_option maxRecDepth 20000
structure HostOK (h : HostV) : Prop where
  name : nameOK h.name = true
  tame : starN h.name = false
  addr : 1 ≤ h.addr ∧ h.addr ≤ 1000000
  owner : 0 ≤ h.owner ∧ h.owner ≤ 31
def HostsTo (l : List HostV) (k : Nat) : Prop := ∀ i (h : i < l.length), i < k → HostOK l[i] ∧ ∀ j (hj : j < i), (l[j]'(by omega)).addr ≠ l[i].addr
structure HostsOK (l : List HostV) : Prop where
  few : l.length ≤ 64
  each : HostsTo l l.length
set_option maxHeartbeats 4000000 in
theorem c_Hosts16 (s : Slc HostV) {H : Hp} {w : World} (hs : Sat H w) (hg : s.Good H) : Calls Tryz.prog 17 #[s.v] w (Tells w (HostsOK s.els)) := by
  have hlen := hg.len
  have hlim := hg.lim
  refine T.enter (vs := [s.v]) (H := H) Tryz.func17 rfl rfl rfl hs ?_
  repeat (any_goals (first | refine T.seq ?_ | refine T.region ?_ | refine TL.nil ?_ | refine N.next ?_ | refine N.ret_then ?_ | refine T.ret ?_ | refine T.skip ?_ | refine T.block ?_ | (apply T.test; rfl; (exact isx); intro _; rotate_left; intro _; rotate_right) | (apply TL.val; rfl; rfl; (first | exact vpure | exact vread))))
  · exact N.tellF rfl (by (exact rvx))
  refine T.loop (G := Nat) (fun i => [(0, s.v), (3, intV i)]) (fun _ => H) (fun _ => []) (fun i => i ≤ s.len ∧ HostsTo s.els i) (fun i => s.len - i) 0 ⟨Nat.zero_le _, fun j _ h => by omega⟩ (by (repeat (first | exact True.intro | refine ⟨rfl, ?_⟩ | refine Sub.int rfl (by omega) ?_))) rfl (by (first | exact List.Sublist.refl _ | exact List.nil_sublist _ | exact List.Sublist.cons _ (List.Sublist.refl _) | exact List.Sublist.cons _ (List.Sublist.cons _ (List.Sublist.refl _)))) ?_
  rintro i ⟨hi, hrel⟩
  by_cases hlt : i < s.len
  · have hil : i < s.els.length := by omega
    have hxg := hg.els _ (List.getElem_mem hil)
    have hrow := hg.row (k := i) hlt
    obtain ⟨x, hx⟩ : ∃ x, s.els[i]'hil = x := ⟨_, rfl⟩
    rw [hx] at hxg
    try rw [hx] at hrow
    cases hv : nameOK x.name with
    | false =>
      repeat (any_goals (first | refine T.seq ?_ | refine T.region ?_ | refine TL.nil ?_ | refine N.next ?_ | refine N.exit_same ?_ | refine N.exit_then ?_ | refine N.ret_then ?_ | refine N.ret_block ?_ | refine T.ret ?_ | refine T.skip ?_ | refine T.exit ?_ | refine T.block ?_ | (apply T.cond_true; rfl) | (apply T.test; rfl; (exact isx); intro _; rotate_left; intro _; rotate_right) | (apply TL.skip; rfl; rfl; rfl) | (apply TL.val; rfl; rfl; (apply V.elem (j := i); (iterate 6 rfl); omega; exact hg.at_ (by omega))) | (apply TL.val; rfl; rfl; (apply V.load_H_row; rfl; rfl; rfl; exact hrow; rfl)) | (apply TL.x; rfl; rfl; (apply X.alloc (d := 4); rfl; rfl; rfl); intro b4 _) | (apply TL.x; rfl; rfl; (apply X.storeTo 0 (enc x); (iterate 10 rfl)); intro _ _) | (apply TL.callE (f := 39) [strV x.name] Tryz.call39; (iterate 4 rfl); (exact fun _ hs => c_V01 x.name hv hs.sat hxg.1)) | (apply TL.val; rfl; rfl; (first | exact vpure | exact vread))))
      all_goals (try contradiction)
      all_goals (try (exfalso; omega))
      all_goals exact N.tellF rfl (by (exact rvx))
    | true =>
    have hx60 := name_len60 hv
    cases hw : wildN x.name with
    | true =>
      repeat (any_goals (first | refine T.seq ?_ | refine T.region ?_ | refine TL.nil ?_ | refine N.next ?_ | refine N.exit_same ?_ | refine N.exit_then ?_ | refine N.ret_then ?_ | refine N.ret_block ?_ | refine T.ret ?_ | refine T.skip ?_ | refine T.exit ?_ | refine T.block ?_ | (apply T.cond_true; rfl) | (apply T.test; rfl; (exact isx); intro _; rotate_left; intro _; rotate_right) | (apply TL.skip; rfl; rfl; rfl) | (apply TL.val; rfl; rfl; (apply V.elem (j := i); (iterate 6 rfl); omega; exact hg.at_ (by omega))) | (apply TL.val; rfl; rfl; (apply V.load_H_row; rfl; rfl; rfl; exact hrow; rfl)) | (apply TL.x; rfl; rfl; (apply X.alloc (d := 4); rfl; rfl; rfl); intro b4 _) | (apply TL.x; rfl; rfl; (apply X.storeTo 0 (enc x); (iterate 10 rfl)); intro _ _) | (apply TL.callE (f := 39) [strV x.name] Tryz.call39; (iterate 4 rfl); (exact fun _ hs => c_V01 x.name hv hs.sat hxg.1)) | (apply TL.callE (f := 40) [strV x.name] Tryz.call40; (iterate 4 rfl); (exact fun _ hs => c_W01 x.name hw hs.sat (by omega))) | (apply TL.val; rfl; rfl; (first | exact vpure | exact vread))))
      all_goals (try contradiction)
      all_goals (try (exfalso; omega))
      all_goals exact N.tellF rfl (by (exact rvx))
    | false =>
    by_cases hr : (1 ≤ x.addr ∧ x.addr ≤ 1000000) ∧ (0 ≤ x.owner ∧ x.owner ≤ 31)
    rotate_left
    · repeat (any_goals (first | refine T.seq ?_ | refine T.region ?_ | refine TL.nil ?_ | refine N.next ?_ | refine N.exit_same ?_ | refine N.exit_then ?_ | refine N.ret_then ?_ | refine N.ret_block ?_ | refine T.ret ?_ | refine T.skip ?_ | refine T.exit ?_ | refine T.block ?_ | (apply T.cond_true; rfl) | (apply T.test; rfl; (exact isx); intro _; rotate_left; intro _; rotate_right) | (apply TL.skip; rfl; rfl; rfl) | (apply TL.val; rfl; rfl; (apply V.elem (j := i); (iterate 6 rfl); omega; exact hg.at_ (by omega))) | (apply TL.val; rfl; rfl; (apply V.load_H_row; rfl; rfl; rfl; exact hrow; rfl)) | (apply TL.x; rfl; rfl; (apply X.alloc (d := 4); rfl; rfl; rfl); intro b4 _) | (apply TL.x; rfl; rfl; (apply X.storeTo 0 (enc x); (iterate 10 rfl)); intro _ _) | (apply TL.callE (f := 39) [strV x.name] Tryz.call39; (iterate 4 rfl); (exact fun _ hs => c_V01 x.name hv hs.sat hxg.1)) | (apply TL.callE (f := 40) [strV x.name] Tryz.call40; (iterate 4 rfl); (exact fun _ hs => c_W01 x.name hw hs.sat (by omega))) | (refine T.loop (G := Unit) (fun _ => []) (fun _ => H) (fun _ => []) (fun _ => True) (fun _ => 0) () trivial trivial rfl (List.nil_sublist _) ?_; exfalso; omega) | (apply TL.val; rfl; rfl; (first | exact vpure | exact vread)) | (apply TL.guard; rfl; rfl; rfl; (exact isx); intro _; rotate_left; intro _; rotate_right)))
      all_goals (try contradiction)
      all_goals (try (exfalso; omega))
      all_goals exact N.tellF rfl (by (exact rvx))
    obtain ⟨⟨r1, r2⟩, r3, r4⟩ := hr
    repeat (any_goals (first | refine T.seq ?_ | refine T.region ?_ | refine TL.nil ?_ | refine N.next ?_ | refine N.exit_same ?_ | refine N.exit_then ?_ | refine N.ret_then ?_ | refine N.ret_block ?_ | refine T.ret ?_ | refine T.skip ?_ | refine T.exit ?_ | refine T.block ?_ | (apply T.cond_true; rfl) | (apply T.test; rfl; (exact isx); intro _; rotate_left; intro _; rotate_right) | (apply TL.skip; rfl; rfl; rfl) | (apply TL.val; rfl; rfl; (apply V.elem (j := i); (iterate 6 rfl); omega; exact hg.at_ (by omega))) | (apply TL.val; rfl; rfl; (apply V.load_H_row; rfl; rfl; rfl; exact hrow; rfl)) | (apply TL.x; rfl; rfl; (apply X.alloc (d := 4); rfl; rfl; rfl); intro b4 _) | (apply TL.x; rfl; rfl; (apply X.storeTo 0 (enc x); (iterate 10 rfl)); intro _ _) | (apply TL.callE (f := 39) [strV x.name] Tryz.call39; (iterate 4 rfl); (exact fun _ hs => c_V01 x.name hv hs.sat hxg.1)) | (apply TL.callE (f := 40) [strV x.name] Tryz.call40; (iterate 4 rfl); (exact fun _ hs => c_W01 x.name hw hs.sat (by omega))) | (apply TL.val; rfl; rfl; (first | exact vpure | exact vread)) | (apply TL.guard; rfl; rfl; rfl; (exact isx); intro _; rotate_left; intro _; rotate_right)))
    all_goals (try contradiction)
    all_goals (try (exfalso; omega))
    refine T.loop (G := Nat) (fun k => [(0, s.v), (3, intV i), (4, .pointer (some ⟨b4, 0, none⟩)), (6, intV k)]) (fun _ => H) (fun _ => [.blk b4 64 (enc x)]) (fun k => k ≤ i ∧ ∀ j (hj : j < s.els.length), j < k → s.els[j].addr ≠ x.addr) (fun k => i - k) 0 ⟨Nat.zero_le _, fun j _ h => by omega⟩ (by (repeat (first | exact True.intro | refine ⟨rfl, ?_⟩ | refine Sub.int rfl (by omega) ?_))) rfl (by (repeat (first | exact List.Sublist.refl _ | exact List.nil_sublist _ | apply List.Sublist.cons_cons | apply List.Sublist.cons))) ?_
    rintro k ⟨hk, hk2⟩
    by_cases hkl : k < i
    · have hkl' : k < s.els.length := by omega
      obtain ⟨y, hy⟩ : ∃ y, s.els[k]'hkl' = y := ⟨_, rfl⟩
      have hy1 := hg.cell (k := k) (j := 1) (by omega) (v := intV y.addr) (by show some (intV (s.els[k]'hkl').addr) = _; rw [hy])
      repeat (any_goals (first | refine T.seq ?_ | refine T.region ?_ | (apply T.regionD wide; rfl) | refine TL.nil ?_ | refine N.next ?_ | refine N.inBlock ?_ | refine N.exit_same ?_ | refine N.exit_then ?_ | refine N.ret_then ?_ | refine N.ret_block ?_ | refine T.ret ?_ | refine T.skip ?_ | refine T.exit ?_ | refine T.block ?_ | (apply T.test; rfl; (exact isx); intro _; rotate_left; intro _; rotate_right) | (apply GT.pure; (iterate 4 rfl); (apply V.elem (j := k); (iterate 6 rfl); omega; exact hg.at_ (by omega)); decide +kernel) | (apply GT.read; (iterate 4 rfl); (apply V.load_H; rfl; rfl; rfl; exact hy1); decide +kernel) | (apply TL.val; rfl; rfl; (first | exact vpure | exact vread)) | (apply GT.pure; (iterate 4 rfl); (first | exact vpure); decide +kernel) | (apply GT.read; (iterate 4 rfl); (first | exact vpure | exact vread); decide +kernel) | (apply GT.done; decide +kernel; apply N.ofQ)))
      all_goals (try (exfalso; omega))
      all_goals first
        | exact N.tellF rfl (by (exact rvx))
        | (have hne : ¬ y.addr = x.addr := by assumption
           refine N.round (k + 1) ⟨by omega, fun j hj hjk => ?_⟩ (by show i - (k + 1) < i - k; omega) (by (repeat (first | exact True.intro | refine ⟨rfl, ?_⟩ | refine Sub.int rfl (by omega) ?_))) rfl (by (repeat (first | exact List.Sublist.refl _ | exact List.nil_sublist _ | apply List.Sublist.cons_cons | apply List.Sublist.cons)))
           by_cases e : j = k
           · subst e; rw [hy]; exact hne
           · exact hk2 j hj (by omega))
    · have hki : k = i := by omega
      subst hki
      repeat (any_goals (first | refine T.seq ?_ | refine T.region ?_ | (apply T.regionD wide; rfl) | refine TL.nil ?_ | refine N.next ?_ | refine N.inBlock ?_ | refine N.exit_same ?_ | refine N.exit_then ?_ | refine N.ret_then ?_ | refine N.ret_block ?_ | refine T.ret ?_ | refine T.skip ?_ | refine T.exit ?_ | refine T.block ?_ | (apply T.test; rfl; (exact isx); intro _; rotate_left; intro _; rotate_right) | (apply TL.val; rfl; rfl; (first | exact vpure | exact vread)) | (apply GT.pure; (iterate 4 rfl); (first | exact vpure); decide +kernel) | (apply GT.read; (iterate 4 rfl); (first | exact vpure | exact vread); decide +kernel) | (apply GT.done; decide +kernel; apply N.ofQ)))
      all_goals (try (exfalso; omega))
      refine N.round (k + 1) ⟨by omega, fun j hj hjk => ?_⟩ (by show s.len - (k + 1) < s.len - k; omega) (by (repeat (first | exact True.intro | refine ⟨rfl, ?_⟩ | refine Sub.int rfl (by omega) ?_))) rfl (by (repeat (first | exact List.Sublist.refl _ | exact List.nil_sublist _ | apply List.Sublist.cons_cons | apply List.Sublist.cons)))
      by_cases e : j = k
      · subst e
        simp only [hx]
        exact ⟨⟨hv, by rw [← wildN_star]; exact hw, ⟨r1, r2⟩, ⟨r3, r4⟩⟩, fun m hm => hk2 m (by omega) hm⟩
      · exact hrel j hj (by omega)
  · have hie : i = s.len := by omega
    subst hie
    repeat (any_goals (first | refine T.seq ?_ | refine T.region ?_ | refine TL.nil ?_ | refine N.next ?_ | refine N.exit_same ?_ | refine N.exit_then ?_ | refine T.ret ?_ | refine T.skip ?_ | refine T.exit ?_ | refine T.block ?_ | (apply T.test; rfl; (exact isx); intro _; rotate_left; intro _; rotate_right) | (apply TL.val; rfl; rfl; (first | exact vpure | exact vread)) | (apply TL.x; rfl; rfl; (first | exact xgrow | exact xput); intro _ _)))
    all_goals (try (exfalso; omega))
    exact N.tellT rfl (by (exact rvx)) ⟨by omega, by rw [hlen]; exact hrel⟩
structure RootsOK (a : RSet) (l : List Int) : Prop where
  valid : setOK a.c = true
  typ : a.typ = 6
  name : a.name = [46]
  some : 1 ≤ l.length
  few : l.length ≤ 8
  addrs : ∀ x ∈ l, 1 ≤ x ∧ x ≤ 1000000
set_option maxHeartbeats 4000000 in
theorem c_Roots16 (a : RSet) (s : Slc Int) {H : Hp} {w : World} (hs : Sat H w) (ha : Enc.good H a) (hg : s.Good H) : Calls Tryz.prog 18 #[.agg (enc a).toArray, s.v] w (Tells w (RootsOK a s.els)) := by
  have hlen := hg.len
  have hlim := hg.lim
  refine T.enter (vs := [.agg (enc a).toArray, s.v]) (H := H) Tryz.func18 rfl rfl rfl hs ?_
  repeat (any_goals (first | refine T.seq ?_ | refine T.region ?_ | refine TL.nil ?_ | refine N.next ?_ | refine T.block ?_ | (apply TL.x; rfl; rfl; (apply X.box (d := 2); rfl; rfl; rfl); intro b2 _) | (apply TL.val; rfl; rfl; (first | exact vpure | exact vread))))
  refine T.loop (G := Nat) (fun i => [(1, s.v), (2, .pointer (some ⟨b2, 0, none⟩)), (5, intV i)]) (fun _ => H) (fun _ => [.blk b2 26 (enc a)]) (fun i => i ≤ s.len ∧ ∀ j (hj : j < s.els.length), j < i → 1 ≤ s.els[j] ∧ s.els[j] ≤ 1000000) (fun i => s.len - i) 0 ⟨Nat.zero_le _, fun j _ h => by omega⟩ (by (repeat (first | exact True.intro | refine ⟨rfl, ?_⟩ | refine Sub.int rfl (by omega) ?_))) rfl (by (repeat (first | exact List.Sublist.refl _ | exact List.nil_sublist _ | apply List.Sublist.cons_cons | apply List.Sublist.cons))) ?_
  rintro i ⟨hi, hrel⟩
  by_cases hlt : i < s.len
  · have hil : i < s.els.length := by omega
    obtain ⟨x, hx⟩ : ∃ x, s.els[i]'hil = x := ⟨_, rfl⟩
    have hc := hg.cell (k := i) (j := 0) hlt (v := intV x) (by show some (intV (s.els[i]'hil)) = _; rw [hx])
    repeat (any_goals (first | refine T.seq ?_ | refine T.region ?_ | refine TL.nil ?_ | refine N.next ?_ | refine N.inBlock ?_ | refine N.exit_same ?_ | refine N.exit_then ?_ | refine N.ret_then ?_ | refine N.ret_block ?_ | refine T.ret ?_ | refine T.skip ?_ | refine T.exit ?_ | refine T.block ?_ | (apply T.cond_true; rfl) | (apply T.test; rfl; (exact isx); intro _; rotate_left; intro _; rotate_right) | (apply TL.skip; rfl; rfl; rfl) | (apply TL.val; rfl; rfl; (apply V.elem (j := i); (iterate 6 rfl); omega; exact hg.at_ (by omega))) | (apply TL.val; rfl; rfl; (apply V.load_H; rfl; rfl; rfl; exact hc)) | (apply TL.val; rfl; rfl; (first | exact vpure | exact vread)) | (apply TL.guard; rfl; rfl; rfl; (exact isx); intro _; rotate_left; intro _; rotate_right)))
    all_goals (try (exfalso; omega))
    all_goals first
      | exact N.tellF rfl (by (exact rvx))
      | (refine N.round (i + 1) ⟨by omega, fun j hj hjk => ?_⟩ (by show s.len - (i + 1) < s.len - i; omega) (by (repeat (first | exact True.intro | refine ⟨rfl, ?_⟩ | refine Sub.int rfl (by omega) ?_))) rfl (by (repeat (first | exact List.Sublist.refl _ | exact List.nil_sublist _ | apply List.Sublist.cons_cons | apply List.Sublist.cons)))
         by_cases e : j = i
         · subst e; rw [hx]; exact ⟨by omega, by omega⟩
         · exact hrel j hj (by omega))
  · cases hv : setOK a.c with
    | false =>
      repeat (any_goals (first | refine T.seq ?_ | refine T.region ?_ | refine TL.nil ?_ | refine N.next ?_ | refine N.inBlock ?_ | refine N.exit_same ?_ | refine N.exit_then ?_ | refine N.ret_then ?_ | refine N.ret_block ?_ | refine T.ret ?_ | refine T.skip ?_ | refine T.exit ?_ | refine T.block ?_ | (apply T.cond_true; rfl) | (apply T.test; rfl; (exact isx); intro _; rotate_left; intro _; rotate_right) | (apply TL.skip; rfl; rfl; rfl) | (apply TL.callE (f := 41) [.agg (enc a).toArray] Tryz.call41; (iterate 4 rfl); (exact fun _ hs => c_V02 a hv hs.sat ha)) | (apply TL.val; rfl; rfl; (first | exact vpure | exact vread)) | (apply TL.guard; rfl; rfl; rfl; (exact isx); intro _; rotate_left; intro _; rotate_right)))
      all_goals (try contradiction)
      all_goals (try (exfalso; omega))
      all_goals exact N.tellF rfl (by (exact rvx))
    | true =>
      repeat (any_goals (first | refine T.seq ?_ | refine T.region ?_ | refine TL.nil ?_ | refine N.next ?_ | refine N.inBlock ?_ | refine N.exit_same ?_ | refine N.exit_then ?_ | refine N.ret_then ?_ | refine N.ret_block ?_ | refine T.ret ?_ | refine T.skip ?_ | refine T.exit ?_ | refine T.block ?_ | (apply T.cond_true; rfl) | (apply T.test; rfl; (exact isx); intro _; rotate_left; intro _; rotate_right) | (apply TL.skip; rfl; rfl; rfl) | (apply TL.callE (f := 41) [.agg (enc a).toArray] Tryz.call41; (iterate 4 rfl); (exact fun _ hs => c_V02 a hv hs.sat ha)) | (apply TL.val; rfl; rfl; (first | exact vpure | exact vread)) | (apply TL.guard; rfl; rfl; rfl; (exact isx); intro _; rotate_left; intro _; rotate_right)))
      all_goals (try contradiction)
      all_goals (try (exfalso; omega))
      all_goals (refine N.tell rfl (by (exact rvx)) fun hb => ?_)
      all_goals (try (exact Bool.noConfusion hb))
      all_goals (try (simp only [decide_eq_true_eq] at hb))
      all_goals first
        | exact ⟨hv, by assumption, by assumption, by omega, by omega, fun x hx => by
            obtain ⟨j, hj, rfl⟩ := List.mem_iff_getElem.1 hx
            exact hrel j hj (by omega)⟩
        | trace_state
end Go.Proofs.YtepljgpikfeklaaGreatDoor
