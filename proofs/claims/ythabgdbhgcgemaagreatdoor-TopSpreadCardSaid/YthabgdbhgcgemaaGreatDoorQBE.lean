import Derived.Test.YthabgdbhgcgemaaGreatDoorQBD
import Derived.Test.YthabgdbhgcgemaaGreatDoorQZJ
import Derived.Test.YthabgdbhgcgemaaGreatDoorQZH
namespace Go.Proofs.YthabgdbhgcgemaaGreatDoor
set_option linter.unusedVariables false
set_option linter.unusedSimpArgs false
open Go
theorem OneZ.lt {z : ZoneC} (h : OneZ z) {i : Nat} : ∀ (d : Nat) (hj : i + d + 1 < z.sets.length), ordSet (z.sets[i]'(by omega)).set (z.sets[i + d + 1]).set < 0
  | 0, hj => by
    have := (h.each (i + 0 + 1) hj).2.2 (by omega)
    exact this
  | d + 1, hj => by
    have h1 := OneZ.lt h d (by omega : i + d + 1 < z.sets.length)
    have h2 := (h.each (i + (d + 1) + 1) hj).2.2 (by omega)
    exact ordSet_trans h1 h2
theorem OneZ.ord {z : ZoneC} (h : OneZ z) : z.sets.Pairwise fun a b => ordSet a.set b.set < 0 := by
  rw [List.pairwise_iff_getElem]
  intro i j hi hj hij
  obtain ⟨d, rfl⟩ : ∃ d, j = i + d + 1 := ⟨j - i - 1, by omega⟩
  exact h.lt d hj
theorem ordSet_same {a : SetC} : ordSet a a = 0 := by
  unfold ordSet
  rw [if_pos (show ordN a.name a.name = 0 from lexL_self _)]
  unfold cmpI; simp
theorem ordSet_place {a b : SignedC} (h : placeC a = placeC b) : ordSet a.set b.set = 0 := by
  have h1 : a.set.name = b.set.name := congrArg Question.name h
  have h2 : a.set.typ = b.set.typ := congrArg Question.typ h
  unfold ordSet
  rw [h1, h2, if_pos (show ordN b.set.name b.set.name = 0 from lexL_self _)]
  unfold cmpI; simp
theorem OneZ.uniq {z : ZoneC} (h : OneZ z) : uniqP z.sets := by
  unfold uniqP
  unfold List.Nodup
  rw [List.pairwise_map]
  exact h.ord.imp fun {a b} hab e => by rw [ordSet_place e] at hab; exact absurd hab (Int.lt_irrefl _)
theorem delta_back {a b : ZoneC} (ha : OneZ a) (hb : OneZ b) {l : List SignedC} (hp : l.Perm (stayD a.sets (dropD a.sets b.sets) (putD a.sets b.sets) ++ putD a.sets b.sets)) (ho : l.Pairwise fun x y => ordSet x.set y.set < 0) : l = b.sets :=
  order_one (r := fun x y : SignedC => ordSet x.set y.set < 0) (fun x y h1 h2 => by have := ordSet_trans h1 h2; rw [ordSet_same] at this; exact absurd this (Int.lt_irrefl _)) (hp.trans (delta_perm ha.uniq hb.uniq)) ho hb.ord
end Go.Proofs.YthabgdbhgcgemaaGreatDoor
namespace Go.Proofs.YthabgdbhgcgemaaGreatDoor
set_option linter.unusedVariables false
set_option linter.unusedSimpArgs false
open Go
theorem setOK_all {s : SetC} (h : setOK s = true) : nameOK s.name = true ∧ (1 ≤ s.typ ∧ s.typ ≤ 8) ∧ (1 ≤ s.data.length ∧ s.data.length ≤ 8) ∧ ((ruleOf s.typ.toNat).single = true → s.data.length = 1) ∧ ∀ d ∈ s.data, datumOK s.typ d = true := by
  unfold setOK at h
  simp only [Bool.and_eq_true, decide_eq_true_eq, Bool.or_eq_true, Bool.not_eq_true', List.all_eq_true] at h
  obtain ⟨⟨⟨⟨⟨⟨⟨h1, h2⟩, h3⟩, h4⟩, h5⟩, h6⟩, h7⟩, h8⟩ := h
  exact ⟨h1, h2, h4, fun hs => h5.resolve_left (by rw [hs]; decide), h7⟩
theorem start_data {s : SetC} (h : setOK s = true) (ht : s.typ = 4) : ∃ d, s.data = [d] ∧ 0 ≤ d.n ∧ d.n ≤ 65535 := by
  obtain ⟨_, _, _, h4, h5⟩ := setOK_all h
  rw [ht] at h4 h5
  have h1 := h4 (by decide)
  cases hd : s.data with
  | nil => rw [hd] at h1; cases h1
  | cons d l =>
    cases l with
    | cons _ _ => rw [hd] at h1; simp at h1
    | nil =>
      have := h5 d (by rw [hd]; exact List.mem_singleton.2 rfl)
      unfold datumOK datumBy at this
      simp only [Bool.and_eq_true, decide_eq_true_eq] at this
      have h6 := this.2.1.1.1
      have e1 : (ruleOf (4 : Int).toNat).leastN = 0 := by decide
      have e2 : (ruleOf (4 : Int).toNat).mostN = 65535 := by decide
      rw [e1, e2] at h6
      exact ⟨d, rfl, h6⟩
theorem OneZ.setAt {z : ZoneC} (h : OneZ z) {s : SignedC} (hs : s ∈ z.sets) : setOK s.set = true := by
  obtain ⟨i, hi, rfl⟩ := List.mem_iff_getElem.1 hs
  exact (h.each i hi).1
theorem start_at {z : ZoneC} (h : OneZ z) {s : SignedC} (hs : s ∈ z.sets) (hn : s.set.name = z.apex) (ht : s.set.typ = 4) : startC z = some s := by
  unfold startC
  cases hf : z.sets.find? (fun s => decide (s.set.name = z.apex) && decide (s.set.typ = 4)) with
  | none =>
    have := List.find?_eq_none.1 hf s hs
    simp [hn, ht] at this
  | some x =>
    have h1 := List.find?_some hf
    simp only [Bool.and_eq_true, decide_eq_true_eq] at h1
    rw [uniqP_eq h.uniq (List.mem_of_find?_eq_some hf) hs (by unfold placeC; rw [h1.1, h1.2, hn, ht])]
theorem serial_at {z : ZoneC} (h : OneZ z) {s : SignedC} (hs : s ∈ z.sets) (hn : s.set.name = z.apex) (ht : s.set.typ = 4) {d : Datum} (hd : s.set.data = [d]) : serialC z = d.n := by
  unfold serialC
  rw [start_at h hs hn ht]
  simp only [hd]
theorem ZonedR.serial {z : ZoneC} (h : ZonedR z) : 0 ≤ serialC z ∧ serialC z < 65536 := by
  obtain ⟨s, hs, hn, ht⟩ := h.two.start
  obtain ⟨d, hd, h1, h2⟩ := start_data (h.one.setAt hs) ht
  rw [serial_at h.one hs hn ht hd]
  omega
def cmpQQ (p q : Question) : Int := cmpN p.name p.typ q.name q.typ
theorem cmpQQ_set {a b : SignedC} (ha : nameOK a.set.name = true) (hb : nameOK b.set.name = true) : cmpQQ (placeC a) (placeC b) = ordSet a.set b.set := by
  rw [← cmpPl_eq ha hb]; rfl
theorem cmpI_flip (x y : Int) : cmpI y x = -cmpI x y := by
  unfold cmpI
  by_cases h : x < y
  · rw [if_pos h, if_neg (by omega), if_pos h]; rfl
  · by_cases h2 : y < x
    · rw [if_pos h2, if_neg h, if_pos h2]
    · rw [if_neg h2, if_neg h, if_neg h, if_neg h2]; try rfl
theorem cmpN_flip (a b : Bytes) (s t : Int) : cmpN b t a s = -cmpN a s b t := by
  unfold cmpN
  by_cases h : a = b
  · rw [if_pos h, if_pos h.symm, cmpI_flip]
  · rw [if_neg h, if_neg (Ne.symm h), ordN_flip]
theorem cmpQQ_flip (p q : Question) : cmpQQ q p = -cmpQQ p q := cmpN_flip _ _ _ _
theorem cmpI_zero {x y : Int} : cmpI x y = 0 ↔ x = y := by
  unfold cmpI
  by_cases h : x < y
  · rw [if_pos h]; omega
  · rw [if_neg h]
    split <;> omega
theorem cmpQQ_zero {p q : Question} (hp : nameOK p.name = true) (hq : nameOK q.name = true) (h : cmpQQ p q = 0) : p = q := by
  obtain ⟨n, t⟩ := p
  obtain ⟨m, u⟩ := q
  unfold cmpQQ cmpN at h
  simp only at h hp hq
  by_cases e : n = m
  · rw [if_pos e] at h
    rw [e, cmpI_zero.1 h]
  · rw [if_neg e] at h
    exact absurd ((ordN_zero hp hq).1 h) e
theorem OneZ.places {z : ZoneC} (h : OneZ z) : (z.sets.map placeC).Pairwise fun p q => cmpQQ p q < 0 := by
  rw [List.pairwise_map]
  refine List.Pairwise.imp_of_mem (fun {a b} ha hb hab => ?_) h.ord
  rw [cmpQQ_set (h.nameMem ha) (h.nameMem hb)]
  exact hab
structure FormD (apex : Bytes) (frm to : Int) (drop : List Question) (put : List SignedC) : Prop where
  apexOK : nameOK apex = true
  tame : starN apex = false
  frmOK : 0 ≤ frm ∧ frm < 65536
  toOK : 0 ≤ to ∧ to < 65536
  before : beforeS frm to = true
  dropLen : drop.length ≤ 20000
  putLen : put.length ≤ 20000
  dropOK : ∀ q ∈ drop, nameOK q.name = true ∧ 1 ≤ q.typ ∧ q.typ ≤ 8
  dropOrd : drop.Pairwise fun p q => cmpQQ p q < 0
  putOK : ∀ s ∈ put, setOK s.set = true
  putOrd : (put.map placeC).Pairwise fun p q => cmpQQ p q < 0
  apart : ∀ s ∈ put, placeC s ∉ drop
theorem formD_of {a b : ZoneC} (ha : ZonedR a) (hb : ZonedR b) (h : beforeS (serialC a) (serialC b) = true) : FormD a.apex (serialC a) (serialC b) (dropD a.sets b.sets) (putD a.sets b.sets) where
  apexOK := ha.one.apexOK
  tame := ha.one.tame
  frmOK := ha.serial
  toOK := hb.serial
  before := h
  dropLen := by
    unfold dropD
    refine Nat.le_trans (List.length_filter_le _ _) ?_
    rw [List.length_map]; exact ha.one.few
  putLen := Nat.le_trans (List.length_filter_le _ _) hb.one.few
  dropOK := fun q hq => by
    obtain ⟨s, hs, rfl⟩ := List.mem_map.1 (mem_dropD.1 hq).1
    obtain ⟨h1, h2, _⟩ := setOK_all (ha.one.setAt hs)
    exact ⟨h1, h2⟩
  dropOrd := ha.one.places.sublist List.filter_sublist
  putOK := fun s hs => hb.one.setAt (mem_putD.1 hs).1
  putOrd := hb.one.places.sublist (List.filter_sublist.map placeC)
  apart := fun s hs hd => (mem_dropD.1 hd).2 (List.mem_map.2 ⟨s, (mem_putD.1 hs).1, rfl⟩)
theorem sorted_back {a b : ZoneC} (ha : OneZ a) (hb : OneZ b) {l : List SignedC} (hp : l.Perm (stayD a.sets (dropD a.sets b.sets) (putD a.sets b.sets) ++ putD a.sets b.sets)) (ho : l.Pairwise fun x y => ¬ cmpQQ (placeC y) (placeC x) < 0) : l = b.sets := by
  have hpb := hp.trans (delta_perm ha.uniq hb.uniq)
  have hu : l.Pairwise fun x y => placeC x ≠ placeC y := by
    have h1 : uniqP l := by
      unfold uniqP
      exact (hpb.map placeC).nodup_iff.2 hb.uniq
    exact List.pairwise_map.1 h1
  refine delta_back ha hb hp ?_
  refine List.Pairwise.imp_of_mem (fun {x y} hx hy hxy => ?_) (ho.and hu)
  have n1 := hb.nameMem (hpb.mem_iff.1 hx)
  have n2 := hb.nameMem (hpb.mem_iff.1 hy)
  rw [← cmpQQ_set n1 n2]
  have h1 := cmpQQ_flip (placeC x) (placeC y)
  have h2 : cmpQQ (placeC x) (placeC y) ≠ 0 := fun e => hxy.2 (cmpQQ_zero n1 n2 e)
  have h3 := hxy.1
  omega
theorem delta_len {a b : ZoneC} (ha : OneZ a) (hb : OneZ b) : (stayD a.sets (dropD a.sets b.sets) (putD a.sets b.sets)).length + (putD a.sets b.sets).length = b.sets.length := by
  rw [← List.length_append]
  exact (delta_perm ha.uniq hb.uniq).length_eq
end Go.Proofs.YthabgdbhgcgemaaGreatDoor
namespace Go.Proofs.YthabgdbhgcgemaaGreatDoor
set_option linter.unusedVariables false
set_option linter.unusedSimpArgs false
open Go Go.RowKit
open Enc (enc)
set_option maxRecDepth 20000
section
variable {H : Hp} {w : World}
theorem c_dvalidSerial (a : Int) (ha : 0 ≤ a ∧ a < 65536) (hs : Sat H w) : Calls Tryz.prog 80 #[intV a] w (Ret w (.bool true)) := by
  refine T.enter (vs := [intV a]) (H := H) Tryz.func80 rfl rfl rfl hs ?_
  repeat (any_goals (first | refine T.seq ?_ | refine T.region ?_ | refine TL.nil ?_ | refine N.next ?_ | refine T.ret ?_ | (apply TL.skip; rfl; rfl; rfl) | (apply TL.val; rfl; rfl; (first | exact vpure | exact vread)) | (apply TL.guard; rfl; rfl; rfl; (exact isx); intro _; rotate_left; intro _; rotate_right)))
  all_goals (try (exfalso; omega))
  all_goals exact N.ret_bool rfl (by (exact rvx)) (decide_eq_true (by omega))
theorem c_dless (a b : Int) (ha : 0 ≤ a ∧ a < 65536) (hb : 0 ≤ b ∧ b < 65536) (hs : Sat H w) : Calls Tryz.prog 81 #[intV a, intV b] w (Ret w (.bool (beforeS a b))) := by
  refine T.enter (vs := [intV a, intV b]) (H := H) Tryz.func81 rfl rfl rfl hs ?_
  repeat (any_goals (first | refine T.seq ?_ | refine T.region ?_ | refine TL.nil ?_ | refine N.next ?_ | refine T.ret ?_ | (apply TL.skip; rfl; rfl; rfl) | (apply TL.val; rfl; rfl; (first | exact vpure | exact vread)) | (apply TL.guard; rfl; rfl; rfl; (exact isx); intro _; rotate_left; intro _; rotate_right)))
  all_goals (try (first | (apply N.ret_bool; rfl; (exact rvx)) | (apply N.ret_int; rfl; (exact rvx)) | (apply N.ret_val; rfl; (exact rvx))))
  all_goals (unfold beforeS; grind)
theorem c_dLess (a b : Int) (ha : 0 ≤ a ∧ a < 65536) (hb : 0 ≤ b ∧ b < 65536) {r : Bool} (hr : beforeS a b = r) (hs : Sat H w) : Calls Tryz.prog 34 #[intV a, intV b] w (Ret w (.tuple #[.bool r, intV 0])) := by
  refine T.enter (vs := [intV a, intV b]) (H := H) Tryz.func34 rfl rfl rfl hs ?_
  repeat (any_goals (first | refine T.seq ?_ | refine T.region ?_ | refine TL.nil ?_ | refine N.next ?_ | refine T.ret ?_ | refine T.skip ?_ | (apply T.cond_false; rfl) | (apply TL.callE (f := 80) [intV a] Tryz.call80; (iterate 4 rfl); (exact fun _ hs => c_dvalidSerial a ha hs.sat)) | (apply TL.callE (f := 80) [intV b] Tryz.call80; (iterate 4 rfl); (exact fun _ hs => c_dvalidSerial b hb hs.sat)) | (apply TL.callE (f := 81) [intV a, intV b] Tryz.call81; (iterate 4 rfl); (exact fun _ hs => hr ▸ c_dless a b ha hb hs.sat)) | (apply TL.val; rfl; rfl; (first | exact vpure | exact vread))))
  all_goals (try contradiction)
  all_goals exact N.ret_two rfl (by (exact rvx)) (by (exact rvx)) rfl
theorem c_serial11 (a : Int) (ha : 0 ≤ a ∧ a < 65536) (hs : Sat H w) : Calls Tryz.prog 71 #[intV a] w (Ret w (.bool true)) := by
  refine T.enter (vs := [intV a]) (H := H) Tryz.func71 rfl rfl rfl hs ?_
  repeat (any_goals (first | refine T.seq ?_ | refine T.region ?_ | refine TL.nil ?_ | refine N.next ?_ | refine T.ret ?_ | (apply TL.skip; rfl; rfl; rfl) | (apply TL.val; rfl; rfl; (first | exact vpure | exact vread)) | (apply TL.guard; rfl; rfl; rfl; (exact isx); intro _; rotate_left; intro _; rotate_right)))
  all_goals (try (exfalso; omega))
  all_goals exact N.ret_bool rfl (by (exact rvx)) (decide_eq_true (by omega))
theorem c_Before11 (a b : Int) (ha : 0 ≤ a ∧ a < 65536) (hb : 0 ≤ b ∧ b < 65536) (hs : Sat H w) : Calls Tryz.prog 72 #[intV a, intV b] w (Ret w (.bool (beforeS a b))) := by
  refine T.enter (vs := [intV a, intV b]) (H := H) Tryz.func72 rfl rfl rfl hs ?_
  repeat (any_goals (first | refine T.seq ?_ | refine T.region ?_ | refine TL.nil ?_ | refine N.next ?_ | refine T.ret ?_ | (apply TL.skip; rfl; rfl; rfl) | (apply TL.val; rfl; rfl; (first | exact vpure | exact vread)) | (apply TL.guard; rfl; rfl; rfl; (exact isx); intro _; rotate_left; intro _; rotate_right)))
  all_goals (try (first | (apply N.ret_bool; rfl; (exact rvx)) | (apply N.ret_int; rfl; (exact rvx)) | (apply N.ret_val; rfl; (exact rvx))))
  all_goals (unfold beforeS; grind)
theorem c_Less11 (a b : Int) (ha : 0 ≤ a ∧ a < 65536) (hb : 0 ≤ b ∧ b < 65536) {r : Bool} (hr : beforeS a b = r) (hs : Sat H w) : Calls Tryz.prog 31 #[intV a, intV b] w (Ret w (.tuple #[.bool r, intV 0])) := by
  refine T.enter (vs := [intV a, intV b]) (H := H) Tryz.func31 rfl rfl rfl hs ?_
  repeat (any_goals (first | refine T.seq ?_ | refine T.region ?_ | refine TL.nil ?_ | refine N.next ?_ | refine T.ret ?_ | refine T.skip ?_ | (apply T.cond_false; rfl) | (apply TL.callE (f := 71) [intV a] Tryz.call71; (iterate 4 rfl); (exact fun _ hs => c_serial11 a ha hs.sat)) | (apply TL.callE (f := 71) [intV b] Tryz.call71; (iterate 4 rfl); (exact fun _ hs => c_serial11 b hb hs.sat)) | (apply TL.callE (f := 72) [intV a, intV b] Tryz.call72; (iterate 4 rfl); (exact fun _ hs => hr ▸ c_Before11 a b ha hb hs.sat)) | (apply TL.val; rfl; rfl; (first | exact vpure | exact vread))))
  all_goals (try contradiction)
  all_goals exact N.ret_two rfl (by (exact rvx)) (by (exact rvx)) rfl
theorem c_isEnd (a : Int) (hs : Sat H w) : Calls Tryz.prog 17 #[intV a] w (Ret w (.bool (decide (1 ≤ a ∧ a ≤ 10000000)))) := by
  refine T.enter (vs := [intV a]) (H := H) Tryz.func17 rfl rfl rfl hs ?_
  repeat (any_goals (first | refine T.seq ?_ | refine T.region ?_ | refine TL.nil ?_ | refine N.next ?_ | refine T.ret ?_ | (apply TL.skip; rfl; rfl; rfl) | (apply TL.val; rfl; rfl; (first | exact vpure | exact vread)) | (apply TL.guard; rfl; rfl; rfl; (exact isx); intro _; rotate_left; intro _; rotate_right)))
  all_goals (try (first | (apply N.ret_bool; rfl; (exact rvx)) | (apply N.ret_int; rfl; (exact rvx)) | (apply N.ret_val; rfl; (exact rvx))))
  all_goals grind
theorem c_isHost (a : Int) (hs : Sat H w) : Calls Tryz.prog 19 #[intV a] w (Ret w (.bool (decide (0 ≤ a ∧ a < 64)))) := by
  refine T.enter (vs := [intV a]) (H := H) Tryz.func19 rfl rfl rfl hs ?_
  repeat (any_goals (first | refine T.seq ?_ | refine T.region ?_ | refine TL.nil ?_ | refine N.next ?_ | refine T.ret ?_ | (apply TL.skip; rfl; rfl; rfl) | (apply TL.val; rfl; rfl; (first | exact vpure | exact vread)) | (apply TL.guard; rfl; rfl; rfl; (exact isx); intro _; rotate_left; intro _; rotate_right)))
  all_goals (try (first | (apply N.ret_bool; rfl; (exact rvx)) | (apply N.ret_int; rfl; (exact rvx)) | (apply N.ret_val; rfl; (exact rvx))))
  all_goals grind
theorem c_End15 (a : Int) (hs : Sat H w) : Calls Tryz.prog 13 #[intV a] w (Ret w (.bool (decide (1 ≤ a ∧ a ≤ 10000000)))) := by
  refine T.enter (vs := [intV a]) (H := H) Tryz.func13 rfl rfl rfl hs ?_
  repeat (any_goals (first | refine T.seq ?_ | refine T.region ?_ | refine TL.nil ?_ | refine N.next ?_ | refine T.ret ?_ | (apply TL.skip; rfl; rfl; rfl) | (apply TL.val; rfl; rfl; (first | exact vpure | exact vread)) | (apply TL.guard; rfl; rfl; rfl; (exact isx); intro _; rotate_left; intro _; rotate_right)))
  all_goals (try (first | (apply N.ret_bool; rfl; (exact rvx)) | (apply N.ret_int; rfl; (exact rvx)) | (apply N.ret_val; rfl; (exact rvx))))
  all_goals grind
theorem c_nothing (z : ZoneV) (hs : Sat H w) (hg : Enc.good H z) : Calls Tryz.prog 55 #[.agg (enc z).toArray] w (Ret w (.bool (decide (z.apex = [] ∧ z.sets.len = 0)))) := by
  have hlim := hg.2.lim
  refine T.enter (vs := [.agg (enc z).toArray]) (H := H) Tryz.func55 rfl rfl rfl hs ?_
  repeat (any_goals (first | refine T.seq ?_ | refine T.region ?_ | refine TL.nil ?_ | refine N.next ?_ | refine T.ret ?_ | (apply TL.skip; rfl; rfl; rfl) | (apply TL.val; rfl; rfl; (first | exact vpure | exact vread)) | (apply TL.x; rfl; rfl; (first | exact xgrow | exact xput); intro _ _) | (apply TL.guard; rfl; rfl; rfl; (exact isx); intro _; rotate_left; intro _; rotate_right)))
  all_goals (try (first | (apply N.ret_bool; rfl; (exact rvx)) | (apply N.ret_int; rfl; (exact rvx)) | (apply N.ret_val; rfl; (exact rvx))))
  all_goals grind
end
end Go.Proofs.YthabgdbhgcgemaaGreatDoor
