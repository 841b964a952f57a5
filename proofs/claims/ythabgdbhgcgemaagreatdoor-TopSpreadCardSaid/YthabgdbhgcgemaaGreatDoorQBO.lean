import Derived.Test.YthabgdbhgcgemaaGreatDoorQBZ
import Derived.Test.YthabgdbhgcgemaaGreatDoorQBQ
import Derived.Test.YthabgdbhgcgemaaGreatDoorQBU
namespace Go.Proofs.YthabgdbhgcgemaaGreatDoor
set_option linter.unusedVariables false
set_option linter.unusedSimpArgs false
open Go Go.RowKit
set_option maxRecDepth 20000
section
variable {P : Program} {n : FK} {S : World → Prop} {env : List (Nat × Value)}
theorem V.remK {t u : TypeId} {x y : Operand} {i j m : Int} (hm : i.tmod j = m) (hx : ev env x = some (intV i)) (hy : ev env y = some (intV j)) (hj : 0 < j) : V P n S env (.binOp .rem t x y u) (intV m) := by
  rw [← hm]; exact V.rem hx hy hj
end
theorem zones_of {l : List VersionV} {fin : Int} (h : VersOK l fin) : ZonesOK (l.map (·.zone)) where
  few := by rw [List.length_map]; exact h.n8
  each z hz := by obtain ⟨v, hv, rfl⟩ := List.mem_map.1 hz; exact h.zone v hv
  apex z hz y hy := by
    obtain ⟨v, hv, rfl⟩ := List.mem_map.1 hz
    obtain ⟨u, hu, rfl⟩ := List.mem_map.1 hy
    exact h.apex v hv u hu
  step i hi := by
    rw [List.length_map] at hi
    rw [List.getElem_map, List.getElem_map]
    exact (h.step i hi).2
  apart := by rw [List.map_map]; exact h.apart
def pubZ (l : List VersionV) (u : Int) : List ZoneV := (l.filter fun v => decide (v.at_ ≤ u)).map (·.zone)
theorem pubZ_take {l : List VersionV} {fin : Int} (h : VersOK l fin) (u : Int) : pubZ l u = (l.map (·.zone)).take ((atsOf l).countP fun a => decide (a ≤ u)) := by
  have ho := h.order
  unfold atsOf at ho
  rw [List.pairwise_map] at ho
  unfold pubZ
  rw [take_count (fun v : VersionV => v.at_) u ho, List.map_take]; rfl
theorem pubZ_yes {l : List VersionV} {u : Int} {k : Nat} (hk : k < l.length) (h : l[k].at_ ≤ u) : pubZ (l.take (k + 1)) u = pubZ (l.take k) u ++ [l[k].zone] := by
  unfold pubZ
  rw [List.take_succ_eq_append_getElem hk, List.filter_append, List.filter_cons_of_pos (by simpa using h), List.map_append]; rfl
theorem pubZ_no {l : List VersionV} {u : Int} {k : Nat} (hk : k < l.length) (h : ¬ l[k].at_ ≤ u) : pubZ (l.take (k + 1)) u = pubZ (l.take k) u := by
  unfold pubZ
  rw [List.take_succ_eq_append_getElem hk, List.filter_append, List.filter_cons_of_neg (by simpa using h), List.filter_nil, List.append_nil]
theorem pubZ_len (l : List VersionV) (u : Int) : (pubZ l u).length ≤ l.length := by
  unfold pubZ
  rw [List.length_map]
  exact List.length_filter_le _ _
theorem pubZ_mem {l : List VersionV} {u : Int} {z : ZoneV} (h : z ∈ pubZ l u) : ∃ v ∈ l, v.zone = z := by
  obtain ⟨v, hv, rfl⟩ := List.mem_map.1 h
  exact ⟨v, (List.mem_filter.1 hv).1, rfl⟩
theorem pub_none {l : List VersionV} {fin u : Int} (h : VersOK l fin) (hn : newK (atsOf l) u = none) : pubZ l u = [] := by
  rw [pubZ_take h]
  unfold newK at hn
  split at hn
  · rename_i e; rw [e, List.take_zero]
  · cases hn
structure PubOK (l : List VersionV) (u : Int) (v : Nat) : Prop where
  lt : v < l.length
  len : (pubZ l u).length = v + 1
  zones : ZonesOK (pubZ l u)
  u0 : 0 ≤ u
  get : ∀ k (hk : k < (pubZ l u).length) (hk' : k < l.length), (pubZ l u)[k] = l[k].zone
theorem pub_some {l : List VersionV} {fin u : Int} {v : Nat} (h : VersOK l fin) (hn : newK (atsOf l) u = some v) : PubOK l u v := by
  have hlt : v < l.length := by have := newK_lt hn; unfold atsOf at this; rwa [List.length_map] at this
  have hc : (atsOf l).countP (fun a => decide (a ≤ u)) = v + 1 := by
    unfold newK at hn
    split at hn
    · cases hn
    · rename_i k e; rw [e]; injection hn with hn; rw [hn]
  refine ⟨hlt, ?_, ?_, ?_, ?_⟩
  · rw [pubZ_take h, hc, List.length_take, List.length_map]; omega
  · rw [pubZ_take h]; exact (zones_of h).take _
  · have : 0 < (atsOf l).countP (fun a => decide (a ≤ u)) := by omega
    obtain ⟨a, ha, hu⟩ := List.countP_pos_iff.1 this
    unfold atsOf at ha
    obtain ⟨x, hx, rfl⟩ := List.mem_map.1 ha
    have h1 := (h.at0 x hx).1
    have h2 : x.at_ ≤ u := by simpa using hu
    omega
  · intro k hk hk'
    have he := pubZ_take h u
    rw [List.getElem_of_eq he hk, List.getElem_take, List.getElem_map]
theorem pulls_next (ats ts : List Int) {k : Nat} (hk : k < ts.length) : pullsK ats (ts.take (k + 1)) = (newK ats ts[k]).or (pullsK ats (ts.take k)) := by
  unfold pullsK
  rw [List.take_succ_eq_append_getElem hk, List.foldl_append]; rfl
structure SecOK (l : List VersionV) (ts : List Int) (k : Nat) (s : SecV) : Prop where
  no : pullsK (atsOf l) (ts.take k) = none → s = SecV.nil
  yes : ∀ v, pullsK (atsOf l) (ts.take k) = some v → s.has = true ∧ (∃ hv : v < l.length, s.zone.c = l[v].zone.c) ∧ newK (atsOf l) s.seen = some v ∧ ∃ j, ∃ hj : j < ts.length, j < k ∧ s.seen = ts[j]
theorem SecOK.start {l : List VersionV} {ts : List Int} : SecOK l ts 0 SecV.nil := ⟨fun _ => rfl, fun v h => by rw [List.take_zero] at h; cases h⟩
theorem SecOK.skip {l : List VersionV} {ts : List Int} {k : Nat} {s : SecV} (h : SecOK l ts k s) (hk : k < ts.length) (hn : newK (atsOf l) ts[k] = none) : SecOK l ts (k + 1) s := by
  have hp := pulls_next (atsOf l) ts hk
  rw [hn, Option.none_or] at hp
  refine ⟨fun h1 => h.no (hp ▸ h1), fun v h1 => ?_⟩
  obtain ⟨h2, h3, h4, j, hj, h5, h6⟩ := h.yes v (hp ▸ h1)
  exact ⟨h2, h3, h4, j, hj, by omega, h6⟩
theorem SecOK.pull {l : List VersionV} {ts : List Int} {k v : Nat} {s : SecV} (hk : k < ts.length) (hn : newK (atsOf l) ts[k] = some v) (h1 : s.has = true) (h2 : ∃ hv : v < l.length, s.zone.c = l[v].zone.c) (h3 : s.seen = ts[k]) : SecOK l ts (k + 1) s := by
  have hp := pulls_next (atsOf l) ts hk
  rw [hn, Option.some_or] at hp
  refine ⟨fun h => (by rw [hp] at h; cases h), fun v' h => ?_⟩
  rw [hp] at h
  injection h with h
  subst h
  exact ⟨h1, h2, by rw [h3]; exact hn, k, hk, by omega, h3⟩
theorem find_conv (l : List VersionV) (h t : Int) (m : List (Int × Int × Int × Nat)) : (m.map (convC l)).find? (fun s => decide (s.1 = h) && (decide (s.2.1 ≤ t) && decide (t < s.2.2.1))) = (m.find? (atH h t)).map (convC l) := by
  rw [List.find?_map]; rfl
theorem served_law {l : List VersionV} {fin primary t : Int} {polls : List PollV} {cs : List CopyV} {h : Nat} {s : SecV} {ts : List Int} (hmap : cs.map copyC = (allServes (atsOf l) primary polls fin 64).map (convC l)) (hh : h < 64) (hp : (h : Int) ≠ primary) (ht : t < fin) (hts : ts = sortI (pollsTo polls h t)) (hs : SecOK l ts ts.length s) :
    (servedZ h t cs).2 = s.has ∧ (servedZ h t cs).1.c = s.zone.c := by
  have h1 := find_copyC h t cs
  rw [hmap, find_conv] at h1
  have h2 := spread_law (ats := atsOf l) (polls := polls) hh hp ht
  rw [← hts] at h2
  have hno := hs.no
  have hyes := hs.yes
  rw [List.take_length] at hno hyes
  unfold servedZ
  cases hf : (allServes (atsOf l) primary polls fin 64).find? (atH h t) with
  | none =>
    rw [hf] at h1 h2
    have h3 : cs.find? (atC h t) = none := by simpa using h1
    rw [h3, hno h2.symm]
    exact ⟨rfl, rfl⟩
  | some x =>
    rw [hf] at h1 h2
    obtain ⟨e1, ⟨hv, e2⟩, _⟩ := hyes _ h2.symm
    obtain ⟨c, hc, hcc⟩ := Option.map_eq_some_iff.1 h1
    rw [hc]
    refine ⟨e1.symm, ?_⟩
    have h4 : c.zone.c = zcOf l x.2.2.2 := congrArg (fun q : Int × Int × Int × ZoneC => q.2.2.2) hcc
    rw [e2]
    show c.zone.c = _
    rw [h4]
    unfold zcOf
    have h5 : l[x.2.2.2]? = some (l[x.2.2.2]'hv) := List.getElem?_eq_getElem hv
    rw [h5]
theorem polls_yes {polls : List PollV} {h t : Int} {k : Nat} (hk : k < polls.length) (h1 : polls[k].host = h) (h2 : polls[k].at_ ≤ t) (h3 : polls[k].lost = false) : pollsTo (polls.take (k + 1)) h t = pollsTo (polls.take k) h t ++ [polls[k].at_] := by
  unfold pollsTo
  rw [List.take_succ_eq_append_getElem hk, List.filter_append, List.filter_cons_of_pos (by rw [decide_eq_true h1, decide_eq_true h2, h3]; rfl), List.map_append]; rfl
theorem polls_no {polls : List PollV} {h t : Int} {k : Nat} (hk : k < polls.length) (hn : ¬ (polls[k].host = h ∧ polls[k].at_ ≤ t ∧ polls[k].lost = false)) : pollsTo (polls.take (k + 1)) h t = pollsTo (polls.take k) h t := by
  unfold pollsTo
  rw [List.take_succ_eq_append_getElem hk, List.filter_append, List.filter_cons_of_neg, List.filter_nil, List.append_nil]
  intro hc
  simp only [Bool.and_eq_true, decide_eq_true_eq, Bool.not_eq_true'] at hc
  exact hn ⟨hc.1, hc.2.1, hc.2.2⟩
theorem polls_len (polls : List PollV) (h t : Int) : (pollsTo polls h t).length ≤ polls.length := by
  unfold pollsTo
  rw [List.length_map]
  exact List.length_filter_le _ _
theorem polls_mem {polls : List PollV} {h t x : Int} (hx : x ∈ pollsTo polls h t) : x ≤ t ∧ ∃ p ∈ polls, p.at_ = x := by
  obtain ⟨p, hp, rfl⟩ := List.mem_map.1 hx
  obtain ⟨h1, h2⟩ := List.mem_filter.1 hp
  simp only [Bool.and_eq_true, decide_eq_true_eq] at h2
  exact ⟨h2.2.1, p, h1, rfl⟩
theorem served_good {H : Hp} {h t : Int} {cs : List CopyV} (hc : ∀ c ∈ cs, Enc.good H c) : Enc.good H (servedZ h t cs).1 := by
  unfold servedZ
  cases hf : cs.find? (atC h t) with
  | none => exact ⟨show LenOk ([] : Bytes) by decide, Slc.nil_good⟩
  | some c => exact (hc c (List.mem_of_find?_eq_some hf)).2.2.2
end Go.Proofs.YthabgdbhgcgemaaGreatDoor
namespace Go.Proofs.YthabgdbhgcgemaaGreatDoor
set_option linter.unusedVariables false
set_option linter.unusedSimpArgs false
open Go Go.RowKit
open Enc (enc)
set_option maxRecDepth 20000
def r7first (n : Int) : List SignedC := [⟨⟨[120], 2, 0, [⟨[97, 46, 110, 115], 0, 0⟩]⟩, []⟩, ⟨⟨[120], 4, 0, [⟨[], n, 0⟩]⟩, []⟩]
def r7zone (n : Int) (l : List Int) : ZoneC := ⟨[120], r7first n ++ if l = [] then [] else [⟨⟨[119, 46, 120], 1, 0, l.map fun a => ⟨[], a, 0⟩⟩, []⟩]⟩
set_option maxHeartbeats 4000000 in
theorem c_r7Zone (n : Int) (l : Slc Int) (hn : I64 n) (hl : l.len ≤ 100) {H : Hp} {w : World} (hs : Sat H w) (hg : l.Good H) : Calls Tryz.prog 11 #[intV n, l.v] w (RetF w H (fun p : Hp × ZoneV => p.2.c = r7zone n l.els ∧ Enc.good p.1 p.2) (fun p => .agg (enc p.2).toArray) (fun p => p.1)) := by
  have hlen := hg.len
  refine T.enter (vs := [intV n, l.v]) (H := H) Tryz.func11 rfl rfl rfl hs ?_
  repeat (any_goals (first | refine T.seq ?_ | refine T.region ?_ | refine TL.nil ?_ | refine N.next ?_ | refine T.block ?_ | (apply TL.x; rfl; rfl; (apply X.alloc (d := 4); rfl; rfl; rfl); intro b4 _) | (apply TL.x; rfl; rfl; (apply X.alloc (d := 5); rfl; rfl; rfl); intro b5 _) | (apply TL.val; rfl; rfl; (apply V.build; (iterate 6 rfl))) | (apply TL.x; rfl; rfl; (apply X.buildSlice1 (d := 13); (iterate 8 rfl)); intro b13 _; apply TL.frzBlk 0 (α := Datum) (els := [(⟨[97, 46, 110, 115], 0, 0⟩ : Datum)]) (m := 1) rfl rfl rfl (by decide) (by intro x hx; rw [List.mem_singleton.1 hx]; exact ⟨by decide, by decide, by decide⟩); intro H1 g13 hle1; have hg := hg.mono hle1) | (apply TL.x; rfl; rfl; (apply X.buildSlice1 (d := 17); (iterate 8 rfl)); intro b17 _; apply TL.frzBlk 0 (α := Datum) (els := [(⟨[], n, 0⟩ : Datum)]) (m := 1) rfl rfl rfl (by decide) (by intro x hx; rw [List.mem_singleton.1 hx]; exact ⟨show LenOk ([] : Bytes) by decide, hn, show I64 0 by decide⟩); intro H2 g17 hle2; have hg := hg.mono hle2; have g13 := g13.mono hle2) | (apply TL.x; rfl; rfl; (apply X.buildParts (d := 19) (enc (⟨[120], 2, 0, ⟨some ⟨b13, 0, none⟩, 1, 1, [⟨[97, 46, 110, 115], 0, 0⟩]⟩⟩ : RSet) ++ enc (⟨[120], 4, 0, ⟨some ⟨b17, 0, none⟩, 1, 1, [⟨[], n, 0⟩]⟩⟩ : RSet)); (iterate 11 rfl)); intro b19 _; apply TL.frzBlk 0 (α := RSet) (els := [(⟨[120], 2, 0, ⟨some ⟨b13, 0, none⟩, 1, 1, [⟨[97, 46, 110, 115], 0, 0⟩]⟩⟩ : RSet), (⟨[120], 4, 0, ⟨some ⟨b17, 0, none⟩, 1, 1, [⟨[], n, 0⟩]⟩⟩ : RSet)]) (m := 2) rfl rfl rfl (by decide) (by intro x hx; rcases List.mem_cons.1 hx with rfl | hx; exact ⟨show LenOk ([120] : Bytes) by decide, show I64 2 by decide, show I64 0 by decide, g13⟩; rw [List.mem_singleton.1 hx]; exact ⟨show LenOk ([120] : Bytes) by decide, show I64 4 by decide, show I64 0 by decide, g17⟩); intro H3 g19 hle3; have hg := hg.mono hle3) | (apply TL.val; rfl; rfl; (first | exact vpure | exact vread)) | (apply TL.x; rfl; rfl; (first | exact xgrow | exact xput); intro _ _)))
  obtain ⟨sl, hsl⟩ : ∃ sl : Slc RSet, (⟨some ⟨b19, 0, none⟩, 2, 2, [(⟨[120], 2, 0, ⟨some ⟨b13, 0, none⟩, 1, 1, [⟨[97, 46, 110, 115], 0, 0⟩]⟩⟩ : RSet), (⟨[120], 4, 0, ⟨some ⟨b17, 0, none⟩, 1, 1, [⟨[], n, 0⟩]⟩⟩ : RSet)]⟩ : Slc RSet) = sl := ⟨_, rfl⟩
  have hsv : Value.slice (some ⟨b19, 0, none⟩) 2 2 = sl.v := by rw [← hsl]
  have hs2 : sl.len = 2 := by rw [← hsl]
  have hsc : (sl.els.map fun x => (⟨x.c, []⟩ : SignedC)) = r7first n := by rw [← hsl]; rfl
  rw [hsl] at g19
  clear hsl
  rw [hsv]
  refine T.nilRow 86 5 ?_
  obtain ⟨sg, hsg⟩ : ∃ sg : List Signed, (sl.els.map fun x => (⟨x, Slc.nil _⟩ : Signed)) = sg := ⟨_, rfl⟩
  have hsgl : sg.length = 2 := by rw [← hsg, List.length_map, g19.len, hs2]
  refine T.loop (G := Value × Nat) (fun g => [(1, l.v), (4, .pointer (some ⟨b4, 0, none⟩)), (5, .pointer (some ⟨b5, 0, none⟩)), (19, sl.v), (20, intV 2), (21, intV g.2)]) (fun _ => H3) (fun g => [.row g.1 86 5 g.2 (encs (sg.take g.2)), .blk b5 32 [strV [120], g.1], .blk b4 32 [strV [], .slice none 0 0]]) (fun g => g.2 ≤ 2) (fun g => 2 - g.2) (.slice none 0 0, 0) (Nat.zero_le _) (by (repeat (first | exact True.intro | refine ⟨rfl, ?_⟩ | refine Sub.int rfl (by omega) ?_))) rfl (by (repeat (first | exact List.Sublist.refl _ | exact List.nil_sublist _ | apply List.Sublist.cons_cons | apply List.Sublist.cons))) ?_
  rintro ⟨v, k⟩ hk
  simp only at hk ⊢
  by_cases hlt : k < 2
  · have hkl : k < sl.els.length := by have := g19.len; omega
    have hrow := g19.row (k := k) (by omega)
    obtain ⟨x, hx⟩ : ∃ x, sl.els[k]'hkl = x := ⟨_, rfl⟩
    rw [hx] at hrow
    have hup : sg.take (k + 1) = sg.take k ++ [(⟨x, Slc.nil _⟩ : Signed)] := by
      rw [List.take_succ_eq_append_getElem (by omega)]
      congr 2
      simp only [← hsg, List.getElem_map, hx]
    repeat (any_goals (first | refine T.seq ?_ | refine T.region ?_ | refine TL.nil ?_ | refine N.next ?_ | refine N.inBlock ?_ | refine N.exit_same ?_ | refine N.exit_then ?_ | refine T.skip ?_ | refine T.exit ?_ | refine T.block ?_ | (apply T.test; rfl; (exact isx); intro _; rotate_left; intro _; rotate_right) | (apply TL.val; rfl; rfl; (apply V.elem (j := k); (iterate 6 rfl); omega; exact g19.at_ (by omega))) | (apply TL.val; rfl; rfl; (apply V.load_H_row; rfl; rfl; rfl; exact hrow; rfl)) | (apply TL.x; rfl; rfl; (apply X.alloc (d := 7); rfl; rfl; rfl); intro b7 _) | (apply TL.x; rfl; rfl; (apply X.storeTo 0 (enc x); (iterate 10 rfl)); intro _ _) | (apply TL.val; rfl; rfl; (apply V.build; (iterate 6 rfl))) | (apply TL.x; rfl; rfl; (apply X.buildSlice1 (d := 29); (iterate 8 rfl)); intro b29 _) | (apply TL.x; rfl; rfl; (apply X.append1 2; (iterate 9 rfl); exact List.Mem.head _; rfl; rfl; rfl; (refine Nat.le_trans (Nat.mul_le_mul_right _ (show _ ≤ 20001 by omega)) ?_; decide); omega); intro pa _) | (apply TL.x; rfl; rfl; (apply X.storeTo 3 [strV [120], .slice (some ⟨pa.1, 0, none⟩) (k + 1) pa.2]; (iterate 10 rfl)); intro _ _) | (apply TL.val; rfl; rfl; (first | exact vpure | exact vread)) | (apply TL.x; rfl; rfl; (first | exact xgrow | exact xput); intro _ _)))
    all_goals (try contradiction)
    all_goals (try (exfalso; omega))
    refine N.round (.slice (some ⟨pa.1, 0, none⟩) (k + 1) pa.2, k + 1) (by show k + 1 ≤ _; omega) (by show 2 - (k + 1) < 2 - k; omega) (by (repeat (first | exact True.intro | refine ⟨rfl, ?_⟩ | refine Sub.int rfl (by omega) ?_))) rfl ?_
    show List.Sublist [Loc.row (.slice (some ⟨pa.1, 0, none⟩) (k + 1) pa.2) 86 5 (k + 1) (encs (sg.take (k + 1))), .blk b5 32 [strV [120], .slice (some ⟨pa.1, 0, none⟩) (k + 1) pa.2], .blk b4 32 [strV [], .slice none 0 0]] _
    rw [hup, encs_snoc]
    exact .cons _ (.cons _ (List.Sublist.refl _))
  · have hke : k = 2 := by omega
    subst hke
    have htk : sg.take 2 = sg := List.take_of_length_le (by omega)
    rw [htk]
    have hsgood : ∀ y ∈ sg, Enc.good H3 y := fun y hy => by
      rw [← hsg] at hy
      obtain ⟨x, hx, rfl⟩ := List.mem_map.1 hy
      exact ⟨g19.els x hx, Slc.nil_good⟩
    have hsgc : sg.map Signed.c = r7first n := by rw [← hsg, List.map_map, ← hsc]; rfl
    by_cases h0 : l.len = 0
    · have hnil : l.els = [] := List.length_eq_zero_iff.1 (by omega)
      refine T.frzRow 0 (v := v) (e := 86) (size := 5) (els := sg) (m := 2) rfl rfl hsgl hsgood ?_
      intro H4 sf e1 e2 e3 hle4
      subst e1
      repeat (any_goals (first | refine T.seq ?_ | refine T.region ?_ | refine TL.nil ?_ | refine N.next ?_ | refine N.exit_same ?_ | refine N.exit_then ?_ | refine T.ret ?_ | refine T.skip ?_ | refine T.exit ?_ | (apply T.cond_false; rfl) | (apply T.test; rfl; (exact isx); intro _; rotate_left; intro _; rotate_right) | (apply TL.x; rfl; rfl; (apply X.storeTo 1 (enc (⟨[120], sf⟩ : ZoneV)); (iterate 10 rfl)); intro _ _) | (apply TL.val; rfl; rfl; (first | exact vpure | exact vread))))
      all_goals (try contradiction)
      all_goals (try (exfalso; omega))
      refine N.ret1 rfl (by (exact rvx)) fun w1 hst => ⟨(H4, ⟨[120], sf⟩), ⟨?_, ⟨show LenOk ([120] : Bytes) by decide, e3⟩⟩, rfl, hst.fresh⟩
      show (⟨[120], sf.els.map Signed.c⟩ : ZoneC) = _
      unfold r7zone
      rw [e2, hsgc, if_pos hnil, List.append_nil]
    · repeat (any_goals (first | refine T.seq ?_ | refine T.region ?_ | refine TL.nil ?_ | refine N.next ?_ | refine N.exit_same ?_ | refine N.exit_then ?_ | refine T.skip ?_ | refine T.exit ?_ | refine T.block ?_ | (apply T.cond_false; rfl) | (apply T.test; rfl; (exact isx); intro _; rotate_left; intro _; rotate_right) | (apply TL.x; rfl; rfl; (apply X.alloc (d := 8); rfl; rfl; rfl); intro b8 _) | (apply TL.val; rfl; rfl; (apply V.build; (iterate 6 rfl))) | (apply TL.val; rfl; rfl; (first | exact vpure | exact vread)) | (apply TL.x; rfl; rfl; (first | exact xgrow | exact xput); intro _ _)))
      all_goals (try contradiction)
      all_goals (try (exfalso; omega))
      obtain ⟨ds, hds⟩ : ∃ ds : List Datum, (l.els.map fun a => (⟨[], a, 0⟩ : Datum)) = ds := ⟨_, rfl⟩
      have hdl : ds.length = l.len := by rw [← hds, List.length_map, hlen]
      refine T.nilRow 79 3 ?_
      refine T.loop (G := Value × Nat) (fun g => [(4, .pointer (some ⟨b4, 0, none⟩)), (5, .pointer (some ⟨b5, 0, none⟩)), (8, .pointer (some ⟨b8, 0, none⟩)), (37, l.v), (38, intV l.len), (39, intV g.2)]) (fun _ => H3) (fun g => [.row g.1 79 3 g.2 (encs (ds.take g.2)), .blk b8 82 [strV [119, 46, 120], intV 1, intV 0, g.1], .row v 86 5 2 (encs sg), .blk b5 32 [strV [120], v], .blk b4 32 [strV [], .slice none 0 0]]) (fun g => g.2 ≤ l.len) (fun g => l.len - g.2) (.slice none 0 0, 0) (Nat.zero_le _) (by (repeat (first | exact True.intro | refine ⟨rfl, ?_⟩ | refine Sub.int rfl (by omega) ?_))) rfl (by (repeat (first | exact List.Sublist.refl _ | exact List.nil_sublist _ | apply List.Sublist.cons_cons | apply List.Sublist.cons))) ?_
      rintro ⟨v2, k⟩ hk
      simp only at hk ⊢
      by_cases hlt : k < l.len
      · have hkl : k < l.els.length := by omega
        obtain ⟨x, hx⟩ : ∃ x, l.els[k]'hkl = x := ⟨_, rfl⟩
        have hcell : H3.cell l.b (l.o + k * 1 + 0) = some (intV x) := by rw [← hx]; exact hg.cell (k := k) (j := 0) hlt rfl
        have hup : ds.take (k + 1) = ds.take k ++ [(⟨[], x, 0⟩ : Datum)] := by
          rw [List.take_succ_eq_append_getElem (by omega)]
          congr 2
          simp only [← hds, List.getElem_map, hx]
        repeat (any_goals (first | refine T.seq ?_ | refine T.region ?_ | refine TL.nil ?_ | refine N.next ?_ | refine N.inBlock ?_ | refine N.exit_same ?_ | refine N.exit_then ?_ | refine T.skip ?_ | refine T.exit ?_ | refine T.block ?_ | (apply T.test; rfl; (exact isx); intro _; rotate_left; intro _; rotate_right) | (apply TL.val; rfl; rfl; (apply V.elem (j := k); (iterate 6 rfl); omega; exact hg.at_ (by omega))) | (apply TL.val; rfl; rfl; (apply V.load_H; rfl; rfl; rfl; exact hcell)) | (apply TL.val; rfl; rfl; (apply V.build; (iterate 6 rfl))) | (apply TL.x; rfl; rfl; (apply X.buildSlice1 (d := 47); (iterate 8 rfl)); intro b47 _) | (apply TL.x; rfl; rfl; (apply X.append1 1; (iterate 9 rfl); exact List.Mem.head _; rfl; rfl; rfl; (refine Nat.le_trans (Nat.mul_le_mul_right _ (show _ ≤ 20001 by omega)) ?_; decide); omega); intro pa _) | (apply TL.x; rfl; rfl; (apply X.storeTo 2 [strV [119, 46, 120], intV 1, intV 0, .slice (some ⟨pa.1, 0, none⟩) (k + 1) pa.2]; (iterate 10 rfl)); intro _ _) | (apply TL.val; rfl; rfl; (first | exact vpure | exact vread)) | (apply TL.x; rfl; rfl; (first | exact xgrow | exact xput); intro _ _)))
        all_goals (try contradiction)
        all_goals (try (exfalso; omega))
        refine N.round (.slice (some ⟨pa.1, 0, none⟩) (k + 1) pa.2, k + 1) (by show k + 1 ≤ _; omega) (by show l.len - (k + 1) < l.len - k; omega) (by (repeat (first | exact True.intro | refine ⟨rfl, ?_⟩ | refine Sub.int rfl (by omega) ?_))) rfl ?_
        show List.Sublist [Loc.row (.slice (some ⟨pa.1, 0, none⟩) (k + 1) pa.2) 79 3 (k + 1) (encs (ds.take (k + 1))), .blk b8 82 [strV [119, 46, 120], intV 1, intV 0, .slice (some ⟨pa.1, 0, none⟩) (k + 1) pa.2], .row v 86 5 2 (encs sg), .blk b5 32 [strV [120], v], .blk b4 32 [strV [], .slice none 0 0]] _
        rw [hup, encs_snoc]
        exact .cons _ (List.Sublist.refl _)
      · have hke : k = l.len := by omega
        subst hke
        have htk : ds.take l.len = ds := List.take_of_length_le (by omega)
        rw [htk]
        refine T.frzRow 0 (v := v2) (e := 79) (size := 3) (els := ds) (m := l.len) rfl rfl hdl (fun y hy => ?_) ?_
        · rw [← hds] at hy
          obtain ⟨a, ha, rfl⟩ := List.mem_map.1 hy
          exact ⟨show LenOk ([] : Bytes) by decide, hg.els a ha, show I64 0 by decide⟩
        intro H4 sd e1 e2 e3 hle4
        subst e1
        have hx3 : Enc.good H4 (⟨⟨[119, 46, 120], 1, 0, sd⟩, Slc.nil _⟩ : Signed) := ⟨⟨show LenOk ([119, 46, 120] : Bytes) by decide, show I64 1 by decide, show I64 0 by decide, e3⟩, Slc.nil_good⟩
        repeat (any_goals (first | refine T.seq ?_ | refine T.region ?_ | refine TL.nil ?_ | refine N.next ?_ | refine N.exit_same ?_ | refine N.exit_then ?_ | refine T.ret ?_ | refine T.skip ?_ | refine T.exit ?_ | refine T.block ?_ | (apply T.test; rfl; (exact isx); intro _; rotate_left; intro _; rotate_right) | (apply TL.val; rfl; rfl; (apply V.build; (iterate 6 rfl))) | (apply TL.x; rfl; rfl; (apply X.buildSlice1 (d := 55); (iterate 8 rfl)); intro b55 _) | (apply TL.x; rfl; rfl; (apply X.append1 2; (iterate 9 rfl); exact List.Mem.head _; rfl; rfl; rfl; decide; decide); intro pa _) | (apply TL.x; rfl; rfl; (apply X.storeTo 3 [strV [120], .slice (some ⟨pa.1, 0, none⟩) (2 + 1) pa.2]; (iterate 10 rfl)); intro _ _; apply TL.frzRowE 2 (sg ++ [(⟨⟨[119, 46, 120], 1, 0, sd⟩, Slc.nil _⟩ : Signed)]); rfl; rfl; exact (encs_snoc sg (⟨⟨[119, 46, 120], 1, 0, sd⟩, Slc.nil _⟩ : Signed)).symm; (rw [List.length_append, hsgl]; rfl); (intro y hy; rcases List.mem_append.1 hy with hy | hy; exact Enc.mono hle4 (hsgood y hy); (rw [List.mem_singleton.1 hy]; exact hx3)); rintro H5 ⟨A2, n2, c2, els2⟩ e1 e4 hgs hle5; injection e1 with e11 e12 e13; subst e11 e12 e13; simp only at e4; subst e4) | (apply TL.x; rfl; rfl; (apply X.storeTo 3 (enc (⟨[120], ⟨some ⟨pa.1, 0, none⟩, 2 + 1, pa.2, sg ++ [(⟨⟨[119, 46, 120], 1, 0, sd⟩, Slc.nil _⟩ : Signed)]⟩⟩ : ZoneV)); (iterate 10 rfl)); intro _ _) | (apply TL.val; rfl; rfl; (first | exact vpure | exact vread)) | (apply TL.x; rfl; rfl; (first | exact xgrow | exact xput); intro _ _)))
        all_goals (try contradiction)
        all_goals (try (exfalso; omega))
        refine N.ret1 rfl (by (exact rvx)) fun w1 hst => ⟨(H5, (⟨[120], ⟨some ⟨pa.1, 0, none⟩, 2 + 1, pa.2, sg ++ [(⟨⟨[119, 46, 120], 1, 0, sd⟩, Slc.nil _⟩ : Signed)]⟩⟩ : ZoneV)), ⟨?_, ⟨show LenOk ([120] : Bytes) by decide, hgs⟩⟩, rfl, hst.fresh⟩
        show (⟨[120], (sg ++ [(⟨⟨[119, 46, 120], 1, 0, sd⟩, Slc.nil _⟩ : Signed)]).map Signed.c⟩ : ZoneC) = _
        unfold r7zone
        have hne : l.els ≠ [] := fun e => h0 (by rw [← hlen, e]; rfl)
        rw [List.map_append, hsgc, if_neg hne]
        show (⟨[120], r7first n ++ [⟨⟨[119, 46, 120], 1, 0, sd.els⟩, []⟩]⟩ : ZoneC) = _
        rw [e2, ← hds]
end Go.Proofs.YthabgdbhgcgemaaGreatDoor
