import Derived.Test.YtepljgpikfeklaaGreatDoorQZN
import Derived.Test.YtepljgpikfeklaaGreatDoorQZP
import Derived.Test.YtepljgpikfeklaaGreatDoorQZI
namespace Go.Proofs.YtepljgpikfeklaaGreatDoor
set_option linter.unusedVariables false
set_option linter.unusedSimpArgs false
open Go Go.RowKit
open Enc (enc)
set_option maxRecDepth 20000
section
variable {l : LayV} {H : Hp} {w : World}
theorem c_aliasesL (h3 : ThreeZ l.zone.c) (hs : Sat H w) (hl : Enc.good H l) : Calls Tryz.prog 116 #[.agg (enc l).toArray] w (Ret w (.bool true)) := c_aliasesHold (z := l.zone) (s := l.beh) h3 hs hl.1
theorem c_cutsL (hO : OneZ l.zone.c) (he : l.beh.els = behT (behRZ l.zone.c)) (h4 : FourZ l.zone.c (behRZ l.zone.c)) (hs : Sat H w) (hl : Enc.good H l) : Calls Tryz.prog 117 #[.agg (enc l).toArray] w (Ret w (.bool true)) := c_cutsHold (z := l.zone) (s := l.beh) hO he h4 hs hl.1 hl.2
theorem c_sigsL (hO : OneZ l.zone.c) (he : l.beh.els = behT (behRZ l.zone.c)) (h5 : FiveZ l.zone.c (behRZ l.zone.c)) (hs : Sat H w) (hl : Enc.good H l) : Calls Tryz.prog 118 #[.agg (enc l).toArray] w (Ret w (.bool true)) := c_sigsHold (z := l.zone) (s := l.beh) hO he h5 hs hl.1 hl.2
theorem c_formL (h5 : FiveZ l.zone.c (behRZ l.zone.c)) (hs : Sat H w) (hl : Enc.good H l) : Calls Tryz.prog 119 #[.agg (enc l).toArray] w (Ret w (.bool true)) := c_formHolds (z := l.zone) (s := l.beh) h5 hs hl.1
end
set_option maxHeartbeats 4000000 in
theorem c_zoneValid (z : ZoneV) (h : ZonedR z.c) {H : Hp} {w : World} (hs : Sat H w) (hR : Rules H) (hz : Enc.good H z) : Calls Tryz.prog 64 #[.agg (enc z).toArray] w (Ret w (.bool true)) := by
  refine T.enter (vs := [.agg (enc z).toArray]) (H := H) Tryz.func64 rfl rfl rfl hs ?_
  repeat (any_goals (first | refine T.seq ?_ | refine T.region ?_ | refine TL.nil ?_ | refine N.next ?_ | refine T.ret ?_ | refine T.skip ?_ | (apply T.cond_false; rfl) | (apply TL.x; rfl; rfl; (apply X.box (d := 1); rfl; rfl; rfl); intro b1 _) | (apply TL.x; rfl; rfl; (apply X.alloc (d := 3); rfl; rfl; rfl); intro b3 _) | (apply TL.x; rfl; rfl; (apply X.alloc (d := 4); rfl; rfl; rfl); intro b4 _) | (apply TL.val; rfl; rfl; (apply V.build; (iterate 6 rfl))) | (apply TL.x; rfl; rfl; (apply X.storeTo 0 (enc z); (iterate 10 rfl)); intro _ _) | (apply TL.callE (f := 113) [.agg (enc z).toArray] Tryz.call113; (iterate 4 rfl); (exact fun _ hs => c_ordered z h.one hs.sat hR hz)) | (apply TL.callE (f := 114) [.agg (enc z).toArray] Tryz.call114; (iterate 4 rfl); (exact fun _ hs => c_apexHolds z h.one h.two hs.sat hz)) | (apply TL.x; rfl; rfl; (apply X.callFE (f := 115) [.agg (enc z).toArray] Tryz.call115; rfl; rfl; rfl; exact (fun _ hs => c_lay z h.one hs.sat hz)); intro p hp) | (apply TL.x; rfl; rfl; (apply X.storeTo 0 (enc p.2); (iterate 10 rfl)); intro _ _) | (apply TL.callE (f := 116) [.agg (enc p.2).toArray] Tryz.call116; (iterate 4 rfl); (exact fun _ hs => c_aliasesL (by rw [hp.1.1.1]; exact h.three) hs.sat hp.1.2)) | (apply TL.callE (f := 117) [.agg (enc p.2).toArray] Tryz.call117; (iterate 4 rfl); (exact fun _ hs => c_cutsL (by rw [hp.1.1.1]; exact h.one) (by rw [hp.1.1.1]; exact hp.1.1.2) (by rw [hp.1.1.1]; exact h.four) hs.sat hp.1.2)) | (apply TL.callE (f := 118) [.agg (enc p.2).toArray] Tryz.call118; (iterate 4 rfl); (exact fun _ hs => c_sigsL (by rw [hp.1.1.1]; exact h.one) (by rw [hp.1.1.1]; exact hp.1.1.2) (by rw [hp.1.1.1]; exact h.five) hs.sat hp.1.2)) | (apply TL.callE (f := 119) [.agg (enc p.2).toArray] Tryz.call119; (iterate 4 rfl); (exact fun _ hs => c_formL (by rw [hp.1.1.1]; exact h.five) hs.sat hp.1.2)) | (apply TL.val; rfl; rfl; (first | exact vpure | exact vread))))
  all_goals (try contradiction)
  all_goals exact N.ret_bool rfl (by (exact rvx)) rfl
end Go.Proofs.YtepljgpikfeklaaGreatDoor
namespace Go.Proofs.YtepljgpikfeklaaGreatDoor
set_option linter.unusedVariables false
set_option linter.unusedSimpArgs false
open Go Go.RowKit
open Enc (enc)
set_option maxRecDepth 20000
set_option maxHeartbeats 1000000 in
theorem c_wildcard (s : Bytes) (h : nameOK s = true) (hst : starN s = false) {H : Hp} {w : World} (hs : Sat H w) : Calls Tryz.prog 147 #[strV s] w (Ret w (.bool false)) := by
  have h60 := name_len60 h
  refine T.enter (vs := [strV s]) (H := H) Tryz.func147 rfl rfl rfl hs ?_
  repeat (any_goals (first | (apply T.seqU 2; rfl) | refine T.region ?_ | refine TL.nil ?_ | refine N.next ?_ | (apply TL.val; rfl; rfl; (first | exact vpure | exact vread))))
  refine T.cut (G := Hp × Slc Bytes) (fun g => [(3, g.2.v)]) (fun g => g.1) (fun _ => []) (fun g => g.2.els = parts s ∧ g.2.Good g.1) ?_ ?_
  · repeat (any_goals (first | refine T.region ?_ | refine TL.nil ?_ | (apply TL.x; rfl; rfl; (apply X.callFE (f := 55) [strV s] Tryz.call55; rfl; rfl; rfl; exact (fun _ hs => c_LabelsYes s h _ _ hs.sat (by show _ ≤ 9223372036854775807; omega))); intro p hp) | (apply TL.val; rfl; rfl; (first | exact vpure | exact vread))))
    exact N.cut p hp.1 (by (repeat (first | exact True.intro | refine ⟨rfl, ?_⟩ | refine Sub.int rfl (by omega) ?_))) rfl (by (repeat (first | exact List.Sublist.refl _ | exact List.nil_sublist _ | apply List.Sublist.cons_cons | apply List.Sublist.cons)))
  rintro p ⟨hpe, hpg⟩
  have hpl := hpg.len
  have hplim := hpg.lim
  by_cases h0 : 0 < p.2.len
  · have h0' : 0 < p.2.els.length := by omega
    have h0p : 0 < (parts s).length := by rw [← hpe]; exact h0'
    have hne : ¬ p.2.els[0] = [42] := fun e => by
      rw [star_head h0p, decide_eq_false_iff_not] at hst
      apply hst
      have : p.2.els[0] = (parts s)[0] := by simp only [hpe]
      rw [← this]; exact e
    obtain ⟨y, hy⟩ : ∃ y, p.2.els[0] = y := ⟨_, rfl⟩
    have hyc := hpg.cell (k := 0) (j := 0) h0 (v := strV y) (by show some (strV (p.2.els[0]'h0')) = _; rw [hy])
    rw [hy] at hne
    repeat (any_goals (first | refine T.seq ?_ | refine T.region ?_ | refine TL.nil ?_ | refine N.next ?_ | refine T.ret ?_ | (apply TL.skip; rfl; rfl; rfl) | (apply TL.val; rfl; rfl; (apply V.elem (j := 0); (iterate 6 rfl); omega; exact hpg.at_ (by omega))) | (apply TL.val; rfl; rfl; (apply V.load_H; rfl; rfl; rfl; exact hyc)) | (apply TL.val; rfl; rfl; (first | exact vpure | exact vread)) | (apply TL.guard; rfl; rfl; rfl; (exact isx); intro _; rotate_left; intro _; rotate_right)))
    all_goals (try (exfalso; omega))
    all_goals exact N.ret_bool rfl (by (exact rvx)) (by first | rfl | exact decide_eq_false hne)
  · repeat (any_goals (first | refine T.seq ?_ | refine T.region ?_ | refine TL.nil ?_ | refine N.next ?_ | refine T.ret ?_ | (apply TL.skip; rfl; rfl; rfl) | (apply TL.val; rfl; rfl; (first | exact vpure | exact vread)) | (apply TL.guard; rfl; rfl; rfl; (exact isx); intro _; rotate_left; intro _; rotate_right)))
    all_goals (try (exfalso; omega))
    all_goals exact N.ret_bool rfl (by (exact rvx)) rfl
theorem c_validAddr (x : Int) (h : 1 ≤ x ∧ x ≤ 1000000) {H : Hp} {w : World} (hs : Sat H w) : Calls Tryz.prog 148 #[intV x] w (Ret w (.bool true)) := by
  refine T.enter (vs := [intV x]) (H := H) Tryz.func148 rfl rfl rfl hs ?_
  repeat (any_goals (first | refine T.seq ?_ | refine T.region ?_ | refine TL.nil ?_ | refine N.next ?_ | refine T.ret ?_ | (apply TL.skip; rfl; rfl; rfl) | (apply TL.val; rfl; rfl; (first | exact vpure | exact vread)) | (apply TL.guard; rfl; rfl; rfl; (exact isx); intro _; rotate_left; intro _; rotate_right)))
  all_goals (try (exfalso; omega))
  all_goals exact N.ret_bool rfl (by (exact rvx)) (by first | rfl | exact decide_eq_true h.2)
theorem c_root1 (x : Int) (h : 1 ≤ x ∧ x ≤ 1000000) {H : Hp} {w : World} (hs : Sat H w) : Calls Tryz.prog 150 #[intV x] w (Ret w (.bool false)) := by
  refine T.enter (vs := [intV x]) (H := H) Tryz.func150 rfl rfl rfl hs ?_
  repeat (any_goals (first | refine T.seq ?_ | refine T.region ?_ | refine TL.nil ?_ | refine N.next ?_ | refine T.ret ?_ | (apply TL.callE (f := 148) [intV x] Tryz.call148; (iterate 4 rfl); (exact fun _ hs => c_validAddr x h hs.sat)) | (apply TL.val; rfl; rfl; (first | exact vpure | exact vread))))
  exact N.ret_bool rfl (by (exact rvx)) rfl
theorem c_rootIdx (s : Slc Int) (hx : ∀ x ∈ s.els, 1 ≤ x ∧ x ≤ 1000000) {H : Hp} {w : World} (hs : Sat H w) (hg : s.Good H) : Calls Tryz.prog 183 #[s.v, .func (.func 150) #[] #[]] w (Ret w (intV (-1))) := by
  have hlen := hg.len
  have hlim := hg.lim
  refine T.enter (vs := [s.v, .func (.func 150) #[] #[]]) (H := H) Tryz.func183 rfl rfl rfl hs ?_
  repeat (any_goals (first | refine T.seq ?_ | refine T.region ?_ | refine TL.nil ?_ | refine N.next ?_ | refine T.block ?_ | (apply TL.val; rfl; rfl; (first | exact vpure | exact vread))))
  refine T.loop (G := Nat) (fun k => [(0, s.v), (1, .func (.func 150) #[] #[]), (7, intV s.len), (8, intV k)]) (fun _ => H) (fun _ => []) (fun k => k ≤ s.len) (fun k => s.len - k) 0 (Nat.zero_le _) (by (repeat (first | exact True.intro | refine ⟨rfl, ?_⟩ | refine Sub.int rfl (by omega) ?_))) rfl (by (first | exact List.Sublist.refl _ | exact List.nil_sublist _ | exact List.Sublist.cons _ (List.Sublist.refl _) | exact List.Sublist.cons _ (List.Sublist.cons _ (List.Sublist.refl _)))) ?_
  intro k hk
  by_cases hlt : k < s.len
  · have hkl : k < s.els.length := by omega
    repeat (any_goals (first | refine T.seq ?_ | refine T.region ?_ | refine TL.nil ?_ | refine N.next ?_ | refine N.inBlock ?_ | refine N.exit_same ?_ | refine N.exit_then ?_ | refine T.ret ?_ | refine T.skip ?_ | refine T.exit ?_ | refine T.block ?_ | (apply T.cond_false; rfl) | (apply T.test; rfl; (exact isx); intro _; rotate_left; intro _; rotate_right) | (apply TL.call; (iterate 4 rfl); exact Tryz.call150; exact fun _ hs => c_root1 _ (hx _ (List.getElem_mem hkl)) hs.sat) | (apply TL.val; rfl; rfl; (first | exact vpure | exact vread))))
    all_goals (try contradiction)
    all_goals (try (exfalso; omega))
    exact N.round (k + 1) (by omega) (by show s.len - (k + 1) < s.len - k; omega) (by (repeat (first | exact True.intro | refine ⟨rfl, ?_⟩ | refine Sub.int rfl (by omega) ?_))) rfl (by (first | exact List.Sublist.refl _ | exact List.nil_sublist _ | exact List.Sublist.cons _ (List.Sublist.refl _) | exact List.Sublist.cons _ (List.Sublist.cons _ (List.Sublist.refl _))))
  · repeat (any_goals (first | refine T.seq ?_ | refine T.region ?_ | refine TL.nil ?_ | refine N.next ?_ | refine N.exit_same ?_ | refine N.exit_then ?_ | refine T.ret ?_ | refine T.skip ?_ | refine T.exit ?_ | refine T.block ?_ | (apply T.test; rfl; (exact isx); intro _; rotate_left; intro _; rotate_right) | (apply TL.val; rfl; rfl; (first | exact vpure | exact vread))))
    all_goals (try (exfalso; omega))
    exact N.ret_int rfl (by (exact rvx)) rfl
set_option maxHeartbeats 1000000 in
theorem c_validRoot (a : RSet) (s : Slc Int) (h : RootsOK a s.els) {H : Hp} {w : World} (hs : Sat H w) (hR : Rules H) (ha : Enc.good H a) (hg : s.Good H) : Calls Tryz.prog 112 #[.agg (enc a).toArray, s.v] w (Ret w (.bool true)) := by
  obtain ⟨h1, h2, h3, h4, h5, h6⟩ := h
  have hlen := hg.len
  have hC : ∀ {w : World}, Sat H w → Calls Tryz.prog 149 #[s.v, .func (.func 150) #[] #[]] w (Ret w (.bool false)) := fun {w} hs => by
    refine T.enter (vs := [s.v, .func (.func 150) #[] #[]]) (H := H) Tryz.func149 rfl rfl rfl hs ?_
    repeat (any_goals (first | refine T.seq ?_ | refine T.region ?_ | refine TL.nil ?_ | refine N.next ?_ | refine T.ret ?_ | (apply TL.callE (f := 183) [s.v, .func (.func 150) #[] #[]] Tryz.call183; (iterate 4 rfl); (exact fun _ hs => c_rootIdx s h6 hs.sat hg)) | (apply TL.val; rfl; rfl; (first | exact vpure | exact vread))))
    exact N.ret_bool rfl (by (exact rvx)) rfl
  refine T.enter (vs := [.agg (enc a).toArray, s.v]) (H := H) Tryz.func112 rfl rfl rfl hs ?_
  repeat (any_goals (first | refine T.seq ?_ | refine T.region ?_ | refine TL.nil ?_ | refine N.next ?_ | refine N.ret_then ?_ | refine T.ret ?_ | refine T.skip ?_ | (apply T.cond_true; rfl) | (apply T.test; rfl; (exact isx); intro _; rotate_left; intro _; rotate_right) | (apply TL.skip; rfl; rfl; rfl) | (apply TL.callE (f := 26) [.agg (enc a).toArray] Tryz.call26; (iterate 4 rfl); (exact fun _ hs => c_RV a h1 hs.sat hR ha)) | (apply TL.callE (f := 149) [s.v, .func (.func 150) #[] #[]] Tryz.call149; (iterate 4 rfl); (exact fun _ hs => hC hs.sat)) | (apply TL.val; rfl; rfl; (first | exact vpure | exact vread)) | (apply TL.x; rfl; rfl; (first | exact xgrow | exact xput); intro _ _) | (apply TL.guard; rfl; rfl; rfl; (exact isx); intro _; rotate_left; intro _; rotate_right)))
  all_goals (try contradiction)
  all_goals (try (exfalso; omega))
  all_goals exact N.ret_bool rfl (by (exact rvx)) rfl
end Go.Proofs.YtepljgpikfeklaaGreatDoor
namespace Go.Proofs.YtepljgpikfeklaaGreatDoor
set_option linter.unusedVariables false
set_option linter.unusedSimpArgs false
open Go Go.RowKit
open Enc (enc)
set_option maxRecDepth 20000
structure WorldV where
  hosts : Slc HostV
  anchor : RSet
  hints : Slc Int
instance : Enc WorldV where
  size := 7
  enc h := [.slice h.hosts.A h.hosts.len h.hosts.cap, .slice none 0 0, strV h.anchor.name, intV h.anchor.typ, intV h.anchor.life, .slice h.anchor.data.A h.anchor.data.len h.anchor.data.cap, .slice h.hints.A h.hints.len h.hints.cap]
  good H h := h.hosts.Good H ∧ Enc.good H h.anchor ∧ h.hints.Good H
  len _ := rfl
  mono hle h := ⟨h.1.mono hle, Enc.mono hle h.2.1, h.2.2.mono hle⟩
  one _ := rfl
  pos := by decide
def addrsUp (l : List HostV) (k : Nat) : List Int := (l.take k).map (·.addr)
theorem addrsUp_next {l : List HostV} {k : Nat} (hk : k < l.length) : addrsUp l (k + 1) = addrsUp l k ++ [l[k].addr] := by
  unfold addrsUp
  rw [List.take_succ_eq_append_getElem hk, List.map_append]; rfl
theorem addrsUp_not {l : List HostV} (h : HostsTo l l.length) {k : Nat} (hk : k < l.length) : l[k].addr ∉ addrsUp l k := fun hm => by
  unfold addrsUp at hm
  obtain ⟨x, hx, he⟩ := List.mem_map.1 hm
  obtain ⟨j, hj, rfl⟩ := List.mem_iff_getElem.1 hx
  rw [List.length_take] at hj
  rw [List.getElem_take] at he
  exact (h k hk hk).2 j (by omega) he
set_option maxHeartbeats 4000000 in
theorem c_validHosts (s : Slc HostV) (h : HostsOK s.els) {H : Hp} {w : World} (hs : Sat H w) (hg : s.Good H) : Calls Tryz.prog 110 #[s.v] w (Ret w (.bool true)) := by
  have hlen := hg.len
  have hlim := hg.lim
  have hfew := h.few
  refine T.enter (vs := [s.v]) (H := H) Tryz.func110 rfl rfl rfl hs ?_
  repeat (any_goals (first | refine T.seq ?_ | refine T.region ?_ | refine TL.nil ?_ | refine N.next ?_ | refine N.ret_then ?_ | refine T.ret ?_ | refine T.skip ?_ | refine T.block ?_ | (apply T.test; rfl; (exact isx); intro _; rotate_left; intro _; rotate_right) | (apply TL.x; rfl; rfl; (apply X.makeMap (fun a : Int => intV a); rfl); intro bm _) | (apply TL.val; rfl; rfl; (first | exact vpure | exact vread))))
  all_goals (try (exfalso; omega))
  refine T.loop (G := Nat) (fun k => [(3, .map (some bm)), (10, s.v), (11, intV s.len), (12, intV k)]) (fun _ => H) (fun k => [.any bm (mObj (fun a : Int => intV a) ((addrsUp s.els k).map fun x => (x, Value.bool true)))]) (fun k => k ≤ s.len) (fun k => s.len - k) 0 (Nat.zero_le _) (by (repeat (first | exact True.intro | refine ⟨rfl, ?_⟩ | refine Sub.int rfl (by omega) ?_))) rfl (by (repeat (first | exact List.Sublist.refl _ | exact List.nil_sublist _ | apply List.Sublist.cons_cons | apply List.Sublist.cons))) ?_
  intro k hk
  by_cases hlt : k < s.len
  · have hkl : k < s.els.length := by omega
    have hrow := hg.row (k := k) hlt
    have hxg := hg.els _ (List.getElem_mem hkl)
    have hup := addrsUp_next hkl
    have hno := addrsUp_not h.each hkl
    obtain ⟨⟨e1, e2, e3, e4⟩, _⟩ := h.each k hkl hkl
    obtain ⟨az, has⟩ : ∃ az, addrsUp s.els k = az := ⟨_, rfl⟩
    rw [has] at hup hno ⊢
    obtain ⟨x, hx⟩ : ∃ x, s.els[k]'hkl = x := ⟨_, rfl⟩
    rw [hx] at hup hno e1 e2 e3 e4 hxg
    try rw [hx] at hrow
    have hget : (aGet x.addr (az.map fun x => (x, Value.bool true))).getD (.bool false) = .bool false := (aGet_set x.addr az).trans (congrArg Value.bool (decide_eq_false hno))
    repeat (any_goals (first | refine T.seq ?_ | refine T.region ?_ | refine TL.nil ?_ | refine N.next ?_ | refine N.inBlock ?_ | refine N.exit_same ?_ | refine N.exit_then ?_ | refine N.ret_then ?_ | refine N.ret_block ?_ | refine T.ret ?_ | refine T.skip ?_ | refine T.exit ?_ | refine T.block ?_ | (apply T.cond_true; rfl) | (apply T.cond_false; rfl) | (apply T.test; rfl; (exact isx); intro _; rotate_left; intro _; rotate_right) | (apply TL.skip; rfl; rfl; rfl) | (apply TL.val; rfl; rfl; (apply V.elem (j := k); (iterate 6 rfl); omega; exact hg.at_ (by omega))) | (apply TL.val; rfl; rfl; (apply V.load_H_row; rfl; rfl; rfl; exact hrow; rfl)) | (apply TL.x; rfl; rfl; (apply X.alloc (d := 5); rfl; rfl; rfl); intro b5 _) | (apply TL.x; rfl; rfl; (apply X.storeTo 0 (enc x); (iterate 10 rfl)); intro _ _) | (apply TL.callE (f := 50) [strV x.name] Tryz.call50; (iterate 4 rfl); (exact fun _ hs => e1 ▸ c_nameValid x.name _ _ hs.sat hxg.1)) | (apply TL.callE (f := 147) [strV x.name] Tryz.call147; (iterate 4 rfl); (exact fun _ hs => c_wildcard x.name e1 e2 hs.sat)) | (apply TL.callE (f := 148) [intV x.addr] Tryz.call148; (iterate 4 rfl); (exact fun _ hs => c_validAddr x.addr e3 hs.sat)) | (apply TL.val; rfl; rfl; (apply V.mlookup (mk := fun a : Int => intV a) x.addr; rfl; rfl; rfl; exact keyI Tryz.underlying3; rfl; rfl; (exact lmem); exact hget)) | (apply TL.x; rfl; rfl; (apply X.mput (mk := fun a : Int => intV a) 1 x.addr; rfl; rfl; exact keyI Tryz.underlying3; (iterate 4 rfl); exact mput_toZ (aPut_set hno) rfl); intro _ _) | (apply TL.val; rfl; rfl; (first | exact vpure | exact vread)) | (apply TL.guard; rfl; rfl; rfl; (exact isx); intro _; rotate_left; intro _; rotate_right)))
    all_goals (try contradiction)
    all_goals (try (exfalso; omega))
    refine N.round (k + 1) (by show k + 1 ≤ _; omega) (by show s.len - (k + 1) < s.len - k; omega) (by (repeat (first | exact True.intro | refine ⟨rfl, ?_⟩ | refine Sub.int rfl (by omega) ?_))) rfl ?_
    simp only [hup]
    (repeat (first | exact List.Sublist.refl _ | exact List.nil_sublist _ | apply List.Sublist.cons_cons | apply List.Sublist.cons))
  · repeat (any_goals (first | refine T.seq ?_ | refine T.region ?_ | refine TL.nil ?_ | refine N.next ?_ | refine N.exit_same ?_ | refine N.exit_then ?_ | refine T.ret ?_ | refine T.skip ?_ | refine T.exit ?_ | refine T.block ?_ | (apply T.test; rfl; (exact isx); intro _; rotate_left; intro _; rotate_right) | (apply TL.val; rfl; rfl; (first | exact vpure | exact vread)) | (apply TL.x; rfl; rfl; (first | exact xgrow | exact xput); intro _ _)))
    all_goals (try (exfalso; omega))
    exact N.ret_bool rfl (by (exact rvx)) rfl
end Go.Proofs.YtepljgpikfeklaaGreatDoor
namespace Go.Proofs.YtepljgpikfeklaaGreatDoor
set_option linter.unusedVariables false
set_option linter.unusedSimpArgs false
open Go Go.RowKit
open Enc (enc)
set_option maxRecDepth 20000
section
variable {P : Program} {n : FK} {w0 : World} {H0 H : Hp} {env : List (Nat × Value)} {L : List Loc} {κ : Type} {mk : κ → Value}
theorem V.mlenZ [Tys P] {t e kt : TypeId} {x : Operand} {b : Nat} {k : TyK} {l : List (κ × Value)} {m : Nat} (hk : tyk P t = some k) (hd : k.desc = .map kt e) (hx : ev env x = some (.map (some b)))
    (hm : Loc.any b (mObj mk l) ∈ L) (hl : l.length = m) : V P n (St w0 H0 H L) env (.call { callee := .builtin .len, args := #[x], argTypes := #[t] }) (intV m) :=
  ⟨fun o a' w ho hf hs => by
    obtain ⟨d, hd1, hd2⟩ := (tyk_ok hk).und
    rw [hd] at hd2
    simp only [TyD.fits] at hd2
    subst hd2
    subst hl
    have hb := (hs.ok _ hm).2
    unfold mObj at hb
    have hsz : (entsFrom mk 0 l).toArray.size = l.length := by simp [entsFrom]
    unfold execOp; rw [ho]
    simp [hf.ev hx, resolve, invoke, builtin, Builtin.len_, run_underlying hd1, MapKept.run_getObj_map hb, goInt, hsz]⟩
end
set_option maxHeartbeats 2000000 in
theorem c_validCopies0 (h : WorldV) {H : Hp} {w : World} (hs : Sat H w) : Calls Tryz.prog 111 #[.agg (enc h).toArray] w (Ret w (.bool true)) := by
  refine T.enter (vs := [.agg (enc h).toArray]) (H := H) Tryz.func111 rfl rfl rfl hs ?_
  repeat (any_goals (first | refine T.seq ?_ | refine T.region ?_ | refine TL.nil ?_ | refine N.next ?_ | refine T.skip ?_ | refine T.block ?_ | (apply T.cond_false; rfl) | (apply TL.x; rfl; rfl; (apply X.box (d := 1); rfl; rfl; rfl); intro b1 _) | (apply TL.x; rfl; rfl; (apply X.makeMap (d := 12) (fun a : Int => intV a); rfl); intro bm _) | (apply TL.x; rfl; rfl; (apply X.makeMap (d := 13) (fun a : Bytes => strV a); rfl); intro bn _) | (apply TL.val; rfl; rfl; (first | exact vpure | exact vread))))
  all_goals (try contradiction)
  all_goals (try (exfalso; omega))
  refine T.loop (G := Unit) (fun _ => [(4, .map (some bn)), (16, intV 0), (17, intV 0)]) (fun _ => H) (fun _ => [.any bn (mObj (fun a : Bytes => strV a) [])]) (fun _ => True) (fun _ => 0) () trivial (by (repeat (first | exact True.intro | refine ⟨rfl, ?_⟩ | refine Sub.int rfl (by omega) ?_))) rfl (by (repeat (first | exact List.Sublist.refl _ | exact List.nil_sublist _ | apply List.Sublist.cons_cons | apply List.Sublist.cons))) ?_
  rintro ⟨⟩ _
  repeat (any_goals (first | refine T.seq ?_ | refine T.region ?_ | refine TL.nil ?_ | refine N.next ?_ | refine N.exit_same ?_ | refine N.exit_then ?_ | refine T.ret ?_ | refine T.exit ?_ | (apply T.cond_false; rfl) | (apply TL.val; rfl; rfl; (apply V.mlenZ (mk := fun a : Bytes => strV a) (l := []) (m := 0); rfl; rfl; rfl; exact List.Mem.head _; rfl)) | (apply TL.val; rfl; rfl; (first | exact vpure | exact vread))))
  all_goals (try contradiction)
  all_goals (try (exfalso; omega))
  exact N.ret_bool rfl (by (exact rvx)) rfl
theorem c_worldValid (h : WorldV) (h1 : HostsOK h.hosts.els) (h2 : RootsOK h.anchor h.hints.els) {H : Hp} {w : World} (hs : Sat H w) (hR : Rules H) (hg : Enc.good H h) : Calls Tryz.prog 63 #[.agg (enc h).toArray] w (Ret w (.bool true)) := by
  obtain ⟨g1, g2, g3⟩ := hg
  refine T.enter (vs := [.agg (enc h).toArray]) (H := H) Tryz.func63 rfl rfl rfl hs ?_
  repeat (any_goals (first | refine T.seq ?_ | refine T.region ?_ | refine TL.nil ?_ | refine N.next ?_ | refine T.ret ?_ | (apply TL.callE (f := 110) [h.hosts.v] Tryz.call110; (iterate 4 rfl); (exact fun _ hs => c_validHosts h.hosts h1 hs.sat g1)) | (apply TL.callE (f := 111) [.agg (enc h).toArray] Tryz.call111; (iterate 4 rfl); (exact fun _ hs => c_validCopies0 h hs.sat)) | (apply TL.callE (f := 112) [.agg (enc h.anchor).toArray, h.hints.v] Tryz.call112; (iterate 4 rfl); (exact fun _ hs => c_validRoot h.anchor h.hints h2 hs.sat hR g2 g3)) | (apply TL.val; rfl; rfl; (first | exact vpure | exact vread)) | (apply TL.x; rfl; rfl; (first | exact xgrow | exact xput); intro _ _)))
  all_goals (try contradiction)
  all_goals exact N.ret_bool rfl (by (exact rvx)) rfl
end Go.Proofs.YtepljgpikfeklaaGreatDoor
