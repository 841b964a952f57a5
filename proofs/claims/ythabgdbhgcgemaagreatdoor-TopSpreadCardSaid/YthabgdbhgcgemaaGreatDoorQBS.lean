import Derived.Test.YthabgdbhgcgemaaGreatDoorQBD
import Derived.Test.YthabgdbhgcgemaaGreatDoorQBLay
import Derived.Test.YthabgdbhgcgemaaGreatDoorQZV
namespace Go.Proofs.YthabgdbhgcgemaaGreatDoor
set_option linter.unusedVariables false
set_option linter.unusedSimpArgs false
open Go Go.RowKit
open Enc (enc)
set_option maxRecDepth 20000
def atsOf (l : List VersionV) : List Int := l.map (·.at_)
def newI (ats : List Int) (t : Int) : Int := (ats.countP fun a => decide (a ≤ t) : Nat) - 1
theorem newI_none {ats : List Int} {t : Int} (h : newK ats t = none) : newI ats t = -1 := by
  unfold newK at h
  unfold newI
  split at h
  · rename_i e; rw [e]; rfl
  · cases h
theorem newI_some {ats : List Int} {t : Int} {k : Nat} (h : newK ats t = some k) : newI ats t = k := by
  unfold newK at h
  unfold newI
  split at h
  · cases h
  · rename_i k' e; cases h; rw [e]; omega
theorem newI_ge (ats : List Int) (t : Int) : -1 ≤ newI ats t ∧ newI ats t < ats.length := by
  have := List.countP_le_length (p := fun a => decide (a ≤ t)) (l := ats)
  unfold newI
  omega
theorem count_range (ats : List Int) (t : Int) : (List.range ats.length).countP (fun i => !decide (t < ats.getD i 0)) = ats.countP fun a => decide (a ≤ t) := by
  have h : ats = (List.range ats.length).map fun i => ats.getD i 0 := by
    apply List.ext_getElem
    · simp
    · intro i h1 h2
      simp [h1]
  conv => rhs; rw [h, List.countP_map]
  refine List.countP_congr fun i _ => ?_
  simp only [Function.comp, Bool.not_eq_true', decide_eq_false_iff_not, decide_eq_true_eq]
  omega
theorem ordered_mono {ats : List Int} (ho : ats.Pairwise (· < ·)) (t : Int) (a b : Nat) (hab : a ≤ b) (hb : b < ats.length) (h : decide (t < ats.getD a 0) = true) : decide (t < ats.getD b 0) = true := by
  have ha : a < ats.length := by omega
  have e1 : ats.getD a 0 = ats[a] := by simp [ha]
  have e2 : ats.getD b 0 = ats[b] := by simp [hb]
  rw [e1, decide_eq_true_iff] at h
  rw [e2, decide_eq_true_iff]
  by_cases e : a = b
  · subst e; exact h
  · have := List.pairwise_iff_getElem.1 ho a b ha hb (by omega)
    omega
def strJ (fin : Int) (p : Int × Nat) : StrV := ⟨p.1, fin, (p.2 : Int)⟩
def strU (s : Int × Int × Nat) : StrV := ⟨s.1, s.2.1, (s.2.2 : Int)⟩
section
variable {H : Hp} {w : World}
theorem c_newest1 (l : Slc VersionV) (t : Int) (bl bt i : Nat) (hi : i < l.len) (hs : Sat H w) (hl : H.cells bl 0 [l.v]) (ht : H.cells bt 0 [intV t]) (hg : l.Good H) : Calls Tryz.prog 88 #[intV i, .pointer (some ⟨bl, 0, none⟩), .pointer (some ⟨bt, 0, none⟩)] w (Ret w (.bool (decide (t < (atsOf l.els).getD i 0)))) := by
  have hlen := hg.len
  have hlim := hg.lim
  have hil : i < l.els.length := by omega
  have c0 : H.cell l.b (l.o + i * 3 + 0) = some (intV (l.els[i]'hil).at_) := hg.cell (k := i) (j := 0) hi rfl
  have he : (atsOf l.els).getD i 0 = (l.els[i]'hil).at_ := by unfold atsOf; simp [hil]
  rw [← he] at c0
  obtain ⟨a, ha⟩ : ∃ a, (atsOf l.els).getD i 0 = a := ⟨_, rfl⟩
  rw [ha] at c0 ⊢
  refine T.enter (vs := [intV i, .pointer (some ⟨bl, 0, none⟩), .pointer (some ⟨bt, 0, none⟩)]) (H := H) Tryz.func88 rfl rfl rfl hs ?_
  repeat (any_goals (first | refine T.seq ?_ | refine T.region ?_ | (apply T.regionD wide; rfl) | refine TL.nil ?_ | refine N.next ?_ | refine T.ret ?_ | (apply GT.read; (iterate 4 rfl); (apply V.load_H; rfl; rfl; rfl; first | exact hl 0 _ rfl | exact ht 0 _ rfl | exact c0); decide +kernel) | (apply GT.pure; (iterate 4 rfl); (apply V.elem (j := i); (iterate 6 rfl); omega; exact hg.at_ (by omega)); decide +kernel) | (apply TL.val; rfl; rfl; (first | exact vpure | exact vread)) | (apply GT.pure; (iterate 4 rfl); (first | exact vpure); decide +kernel) | (apply GT.done; decide +kernel; apply N.ofQ)))
  all_goals exact N.ret_bool rfl (by (exact rvx)) rfl
theorem c_newest (l : Slc VersionV) (t : Int) (ho : (atsOf l.els).Pairwise (· < ·)) (hb : l.len ≤ 400) (hs : Sat H w) (hg : l.Good H) : Calls Tryz.prog 38 #[l.v, intV t] w (Ret w (intV (newI (atsOf l.els) t))) := by
  have hlen := hg.len
  have hal : (atsOf l.els).length = l.len := by unfold atsOf; rw [List.length_map, hlen]
  have hge := newI_ge (atsOf l.els) t
  have hcount := count_range (atsOf l.els) t
  rw [hal] at hcount
  have hni : ((atsOf l.els).countP (fun a => decide (a ≤ t)) : Nat) - 1 = newI (atsOf l.els) t := rfl
  obtain ⟨c, hc⟩ : ∃ c, (atsOf l.els).countP (fun a => decide (a ≤ t)) = c := ⟨_, rfl⟩
  rw [hc] at hni hcount
  rw [← hni] at hge ⊢
  refine T.enter (vs := [l.v, intV t]) (H := H) Tryz.func38 rfl rfl rfl hs ?_
  repeat (any_goals (first | refine T.seq ?_ | refine T.region ?_ | refine TL.nil ?_ | refine N.next ?_ | refine T.ret ?_ | (apply TL.x; rfl; rfl; (apply X.box (d := 2) (cs := [l.v]); rfl; rfl; rfl); intro b2 _; apply TL.frzZ 0; rfl; intro H1 z2 hle1) | (apply TL.x; rfl; rfl; (apply X.box (d := 3) (cs := [intV t]); rfl; rfl; rfl); intro b3 _; apply TL.frzZ 0; rfl; intro H2 z3 hle2; have z2 := Hp.cells_le hle2 z2; have hg2 := hg.mono (hle1.trans hle2)) | (apply TL.val; rfl; rfl; (apply V.load_H; rfl; rfl; rfl; exact z2 0 _ rfl)) | (apply TL.val; rfl; rfl; ((apply V.makeFunc (vs := []) (us := [.pointer (some ⟨b2, 0, none⟩), .pointer (some ⟨b3, 0, none⟩)]) <;> rfl))) | (apply TL.callE (f := 87) [intV l.len, .func (.func 88) #[] #[.pointer (some ⟨b2, 0, none⟩), .pointer (some ⟨b3, 0, none⟩)]] Tryz.call87; (iterate 4 rfl); (exact fun _ hs => hcount ▸ c_search laySe 88 [.pointer (some ⟨b2, 0, none⟩), .pointer (some ⟨b3, 0, none⟩)] l.len (fun i => decide (t < (atsOf l.els).getD i 0)) Tryz.call88 (by omega) (fun i W hi hW => c_newest1 l t b2 b3 i hi hW z2 z3 hg2) (fun a b hab hb h => ordered_mono ho t a b hab (by omega) h) hs.sat)) | (apply TL.val; rfl; rfl; (first | exact vpure | exact vread))))
  all_goals (try contradiction)
  exact N.ret_int rfl (by (exact rvx)) rfl
theorem c_stretches1 (a b : StrV) (hs : Sat H w) : Calls Tryz.prog 40 #[.agg (enc a).toArray, .agg (enc b).toArray] w (Ret w (.bool (decide (a.ver = b.ver)))) := by
  refine T.enter (vs := [.agg (enc a).toArray, .agg (enc b).toArray]) (H := H) Tryz.func40 rfl rfl rfl hs ?_
  repeat (any_goals (first | refine T.seq ?_ | refine T.region ?_ | refine TL.nil ?_ | refine N.next ?_ | refine T.ret ?_ | (apply TL.x; rfl; rfl; (apply X.box (d := 2) (cs := enc a); rfl; rfl; rfl); intro b2 _) | (apply TL.x; rfl; rfl; (apply X.box (d := 3) (cs := enc b); rfl; rfl; rfl); intro b3 _) | (apply TL.val; rfl; rfl; (first | exact vpure | exact vread))))
  exact N.ret_bool rfl (by (exact rvx)) rfl
theorem joinJ_next {ps : List (Int × Nat)} {k : Nat} (hk : k < ps.length) : joinJ (ps.take (k + 1)) = stepJ (joinJ (ps.take k)) ps[k] := by
  unfold joinJ
  rw [List.take_succ_eq_append_getElem hk, List.foldl_append]; rfl
theorem joinJ_len (ps : List (Int × Nat)) : (joinJ ps).length ≤ ps.length := (joinJ_sub ps).length_le
set_option maxHeartbeats 4000000 in
theorem c_joinS (s : Slc StrV) (fin : Int) (ps : List (Int × Nat)) (hps : s.els = ps.map (strJ fin)) (hb : s.len ≤ 10000) (hs : Sat H w) (hg : s.Good H) : Calls Tryz.prog 39 #[s.v, .func (.func 40) #[] #[]] w (RetO w H (fun o : Option (Nat × Nat) => o = none ↔ joinJ ps = []) (fun o => rowOf o (joinJ ps).length) (fun _ => H) (fun o => [.row (rowOf o (joinJ ps).length) 63 3 (joinJ ps).length (encs ((joinJ ps).map (strJ fin)))])) := by
  have hlen := hg.len
  have hlim := hg.lim
  have hpl : ps.length = s.len := by rw [← hlen, hps, List.length_map]
  refine T.enter (vs := [s.v, .func (.func 40) #[] #[]]) (H := H) Tryz.func39 rfl rfl rfl hs ?_
  repeat (any_goals (first | refine T.seq ?_ | refine T.region ?_ | refine TL.nil ?_ | refine N.next ?_ | refine T.block ?_ | (apply TL.val; rfl; rfl; (first | exact vpure | exact vread))))
  refine T.nilRow 63 3 ?_
  refine T.loop (G := Option (Nat × Nat) × Nat) (fun g => [(1, .func (.func 40) #[] #[]), (5, rowOf g.1 (joinJ (ps.take g.2)).length), (8, s.v), (9, intV s.len), (10, intV g.2)]) (fun _ => H) (fun g => [.row (rowOf g.1 (joinJ (ps.take g.2)).length) 63 3 (joinJ (ps.take g.2)).length (encs ((joinJ (ps.take g.2)).map (strJ fin)))]) (fun g => g.2 ≤ s.len ∧ (g.1 = none ↔ joinJ (ps.take g.2) = [])) (fun g => s.len - g.2) (none, 0) ⟨Nat.zero_le _, by simp [joinJ]⟩ (by (repeat (first | exact True.intro | refine ⟨rfl, ?_⟩ | refine Sub.int rfl (by omega) ?_))) rfl (by (repeat (first | exact List.Sublist.refl _ | exact List.nil_sublist _ | apply List.Sublist.cons_cons | apply List.Sublist.cons))) ?_
  rintro ⟨o, k⟩ ⟨hk, ho⟩
  simp only at hk ho ⊢
  by_cases hlt : k < s.len
  · have hkl : k < ps.length := by omega
    have hks : k < s.els.length := by omega
    have hrow := hg.row (k := k) hlt
    have hup := joinJ_next hkl
    have hcl := joinJ_len (ps.take k)
    rw [List.length_take] at hcl
    have hxe : s.els[k]'hks = strJ fin ps[k] := by simp only [hps, List.getElem_map]
    rw [hxe] at hrow
    obtain ⟨out, hout⟩ : ∃ out, joinJ (ps.take k) = out := ⟨_, rfl⟩
    obtain ⟨q, hq⟩ : ∃ q, ps[k] = q := ⟨_, rfl⟩
    rw [hout, hq] at hup
    rw [hq] at hrow
    rw [hout] at ho hcl ⊢
    obtain ⟨x, hx⟩ : ∃ x, strJ fin q = x := ⟨_, rfl⟩
    rw [hx] at hrow
    cases o with
    | none =>
      have h0 := ho.1 rfl
      subst h0
      have hu : stepJ [] q = [q] := rfl
      rw [hu] at hup
      have hxs : encs ([q].map (strJ fin)) = [] ++ enc x := by show enc (strJ fin q) ++ [] = _; rw [hx, List.append_nil]; rfl
      simp only [rowOf]
      repeat (any_goals (first | refine T.seq ?_ | refine T.region ?_ | (apply T.regionD wide; rfl) | refine TL.nil ?_ | refine N.next ?_ | refine N.inBlock ?_ | refine N.exit_same ?_ | refine N.exit_then ?_ | refine T.ret ?_ | refine T.skip ?_ | refine T.exit ?_ | refine T.block ?_ | (apply T.cond_true; rfl) | (apply T.test; rfl; (exact isx); intro _; rotate_left; intro _; rotate_right) | (apply GT.skip; rfl; rfl; rfl; decide +kernel) | (apply TL.val; rfl; rfl; (apply V.elem (j := k); (iterate 6 rfl); omega; exact hg.at_ (by omega))) | (apply TL.val; rfl; rfl; (apply V.load_H_row; rfl; rfl; rfl; exact hrow; rfl)) | (apply TL.x; rfl; rfl; (apply X.alloc (d := 7); rfl; rfl; rfl); intro b7 _) | (apply TL.x; rfl; rfl; (apply X.storeTo 0 (enc x); (iterate 10 rfl)); intro _ _) | (apply TL.x; rfl; rfl; (apply X.buildSlice1 (d := 31); (iterate 8 rfl)); intro b31 _) | (apply TL.x; rfl; rfl; (apply X.append1 2; (iterate 9 rfl); exact List.Mem.head _; rfl; rfl; rfl; decide; decide); intro pa _) | (apply TL.val; rfl; rfl; (first | exact vpure | exact vread)) | (apply GT.pure; (iterate 4 rfl); (first | exact vpure); decide +kernel) | (apply GT.done; decide +kernel; apply N.ofQ)))
      all_goals (try contradiction)
      all_goals (try (exfalso; omega))
      refine N.round (some pa, k + 1) ⟨by show k + 1 ≤ _; omega, by simp [hup]⟩ (by show s.len - (k + 1) < s.len - k; omega) (by simp only [hup, rowOf]; (repeat (first | exact True.intro | refine ⟨rfl, ?_⟩ | refine Sub.int rfl (by omega) ?_))) rfl ?_
      simp only [hup, rowOf, hxs]
      (repeat (first | exact List.Sublist.refl _ | exact List.nil_sublist _ | apply List.Sublist.cons_cons | apply List.Sublist.cons))
    | some p =>
      have hne : out ≠ [] := fun h => by have := ho.2 h; cases this
      obtain ⟨y0, hla⟩ : ∃ y0, out.getLast? = some y0 := by
        cases h : out.getLast? with
        | none => exact absurd (List.getLast?_eq_none_iff.1 h) hne
        | some y => exact ⟨y, rfl⟩
      have hpos : 0 < out.length := List.length_pos_iff.2 hne
      have hyy : (out.map (strJ fin))[out.length - 1]? = some (strJ fin y0) := by
        rw [List.getElem?_map, ← List.getLast?_eq_getElem?, hla]; rfl
      obtain ⟨y, hy⟩ : ∃ y, strJ fin y0 = y := ⟨_, rfl⟩
      rw [hy] at hyy
      have hyt : ((encs (out.map (strJ fin))).drop (0 + (out.length - 1) * 3)).take 3 = enc y := by
        have := encs_rowat hyy (o := 0 + (out.length - 1) * 3) (by show _ = (out.length - 1) * 3; omega)
        exact this
      simp only [rowOf]
      by_cases he : y0.2 = q.2
      · have hu : stepJ out q = out := by unfold stepJ; rw [hla]; exact if_pos he
        rw [hu] at hup
        have hdec : decide (y.ver = x.ver) = true := decide_eq_true (by rw [← hy, ← hx]; show (y0.2 : Int) = (q.2 : Int); rw [he])
        repeat (any_goals (first | refine T.seq ?_ | refine T.region ?_ | (apply T.regionD wide; rfl) | refine TL.nil ?_ | refine N.next ?_ | refine N.inBlock ?_ | refine N.exit_same ?_ | refine N.exit_then ?_ | refine T.ret ?_ | refine T.skip ?_ | refine T.exit ?_ | refine T.block ?_ | (apply T.cond_true; rfl) | (apply T.cond_false; rfl) | (apply T.test; rfl; (exact isx); intro _; rotate_left; intro _; rotate_right) | (apply GT.skip; rfl; rfl; rfl; decide +kernel) | (apply TL.val; rfl; rfl; (apply V.elem (j := k); (iterate 6 rfl); omega; exact hg.at_ (by omega))) | (apply TL.val; rfl; rfl; (apply V.load_H_row; rfl; rfl; rfl; exact hrow; rfl)) | (apply TL.x; rfl; rfl; (apply X.alloc (d := 7); rfl; rfl; rfl); intro b7 _) | (apply TL.x; rfl; rfl; (apply X.storeTo 0 (enc x); (iterate 10 rfl)); intro _ _) | (apply GT.pure; (iterate 4 rfl); (apply V.elem (j := out.length - 1); (iterate 5 rfl); omega; omega; rfl); decide +kernel) | (apply GT.read; (iterate 4 rfl); (apply V.load_own_row; rfl; rfl; rfl; exact List.Mem.tail _ (List.Mem.head _); exact hyt; rfl); decide +kernel) | (apply GT.call; (iterate 6 rfl); exact Tryz.call40; exact fun _ hs => hdec ▸ c_stretches1 y x hs.sat; decide +kernel) | (apply TL.val; rfl; rfl; (first | exact vpure | exact vread)) | (apply GT.pure; (iterate 4 rfl); (first | exact vpure); decide +kernel) | (apply GT.read; (iterate 4 rfl); (first | exact vpure | exact vread); decide +kernel) | (apply GT.done; decide +kernel; apply N.ofQ) | (apply TL.x; rfl; rfl; (first | exact xgrow | exact xput); intro _ _) | (apply GT.guard; (iterate 4 rfl); (exact isx); intro _; rotate_left; intro _; rotate_right)))
        all_goals (try contradiction)
        all_goals (try (exfalso; omega))
        all_goals first
          | exact N.round (some p, k + 1) ⟨by show k + 1 ≤ _; omega, by simp [hup, hne]⟩ (by show s.len - (k + 1) < s.len - k; omega) (by simp only [hup, rowOf]; (repeat (first | exact True.intro | refine ⟨rfl, ?_⟩ | refine Sub.int rfl (by omega) ?_))) rfl (by simp only [hup, rowOf]; (repeat (first | exact List.Sublist.refl _ | exact List.nil_sublist _ | apply List.Sublist.cons_cons | apply List.Sublist.cons)))
          | trace_state
      · have hu : stepJ out q = out ++ [q] := by unfold stepJ; rw [hla]; exact if_neg he
        rw [hu] at hup
        have hdec : decide (y.ver = x.ver) = false := decide_eq_false (by rw [← hy, ← hx]; show ¬ (y0.2 : Int) = (q.2 : Int); omega)
        have hxs : encs ((out ++ [q]).map (strJ fin)) = encs (out.map (strJ fin)) ++ enc x := by rw [List.map_append, encs_append, List.map_cons, List.map_nil, hx]; show _ ++ (enc x ++ []) = _; rw [List.append_nil]
        repeat (any_goals (first | refine T.seq ?_ | refine T.region ?_ | (apply T.regionD wide; rfl) | refine TL.nil ?_ | refine N.next ?_ | refine N.inBlock ?_ | refine N.exit_same ?_ | refine N.exit_then ?_ | refine T.ret ?_ | refine T.skip ?_ | refine T.exit ?_ | refine T.block ?_ | (apply T.cond_true; rfl) | (apply T.test; rfl; (exact isx); intro _; rotate_left; intro _; rotate_right) | (apply GT.skip; rfl; rfl; rfl; decide +kernel) | (apply TL.val; rfl; rfl; (apply V.elem (j := k); (iterate 6 rfl); omega; exact hg.at_ (by omega))) | (apply TL.val; rfl; rfl; (apply V.load_H_row; rfl; rfl; rfl; exact hrow; rfl)) | (apply TL.x; rfl; rfl; (apply X.alloc (d := 7); rfl; rfl; rfl); intro b7 _) | (apply TL.x; rfl; rfl; (apply X.storeTo 0 (enc x); (iterate 10 rfl)); intro _ _) | (apply GT.pure; (iterate 4 rfl); (apply V.elem (j := out.length - 1); (iterate 5 rfl); omega; omega; rfl); decide +kernel) | (apply GT.read; (iterate 4 rfl); (apply V.load_own_row; rfl; rfl; rfl; exact List.Mem.tail _ (List.Mem.head _); exact hyt; rfl); decide +kernel) | (apply GT.call; (iterate 6 rfl); exact Tryz.call40; exact fun _ hs => hdec ▸ c_stretches1 y x hs.sat; decide +kernel) | (apply TL.x; rfl; rfl; (apply X.buildSlice1 (d := 31); (iterate 8 rfl)); intro b31 _) | (apply TL.x; rfl; rfl; (apply X.append1 2; (iterate 9 rfl); exact List.Mem.head _; rfl; rfl; rfl; (refine Nat.le_trans (Nat.mul_le_mul_right _ (show _ ≤ 20001 by omega)) ?_; decide); omega); intro pa _) | (apply TL.val; rfl; rfl; (first | exact vpure | exact vread)) | (apply GT.pure; (iterate 4 rfl); (first | exact vpure); decide +kernel) | (apply GT.read; (iterate 4 rfl); (first | exact vpure | exact vread); decide +kernel) | (apply GT.done; decide +kernel; apply N.ofQ) | (apply GT.guard; (iterate 4 rfl); (exact isx); intro _; rotate_left; intro _; rotate_right)))
        all_goals (try contradiction)
        all_goals (try (exfalso; omega))
        all_goals first
          | (refine N.round (some pa, k + 1) ⟨by show k + 1 ≤ _; omega, by simp [hup]⟩ (by show s.len - (k + 1) < s.len - k; omega) (by simp only [hup, rowOf, List.length_append, List.length_cons, List.length_nil, Nat.zero_add]; (repeat (first | exact True.intro | refine ⟨rfl, ?_⟩ | refine Sub.int rfl (by omega) ?_))) rfl ?_
             simp only [hup, rowOf, hxs, List.length_append, List.length_cons, List.length_nil, Nat.zero_add]
             (repeat (first | exact List.Sublist.refl _ | exact List.nil_sublist _ | apply List.Sublist.cons_cons | apply List.Sublist.cons)))
          | trace_state
  · have hke : k = s.len := by omega
    subst hke
    rw [List.take_of_length_le (by omega)] at ho ⊢
    repeat (any_goals (first | refine T.seq ?_ | refine T.region ?_ | (apply T.regionD wide; rfl) | refine TL.nil ?_ | refine N.next ?_ | refine N.exit_same ?_ | refine N.exit_then ?_ | refine T.ret ?_ | refine T.skip ?_ | refine T.exit ?_ | refine T.block ?_ | (apply T.test; rfl; (exact isx); intro _; rotate_left; intro _; rotate_right) | (apply TL.val; rfl; rfl; (first | exact vpure | exact vread)) | (apply GT.pure; (iterate 4 rfl); (first | exact vpure); decide +kernel) | (apply TL.x; rfl; rfl; (first | exact xgrow | exact xput); intro _ _) | (apply GT.fork1; decide +kernel)))
    all_goals (try (exfalso; omega))
    exact N.ret1 rfl (by (exact rvx)) fun w hst => ⟨o, ho, rfl, hst⟩
end
end Go.Proofs.YthabgdbhgcgemaaGreatDoor
