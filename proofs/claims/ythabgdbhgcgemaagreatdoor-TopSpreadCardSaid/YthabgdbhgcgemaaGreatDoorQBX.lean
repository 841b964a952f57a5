import Derived.Test.YthabgdbhgcgemaaGreatDoorQBW
namespace Go.Proofs.YthabgdbhgcgemaaGreatDoor
set_option linter.unusedVariables false
set_option linter.unusedSimpArgs false
open Go Go.RowKit
open Enc (enc)
set_option maxRecDepth 20000
def timesUp (ats : List Int) (primary : Int) (polls : List PollV) (h : Int) : List Int :=
  (if h = primary then ats else []) ++ ((polls.filter fun p => !decide (p.host = primary) && !p.lost).filter fun p => decide (p.host = h)).map (·.at_)
theorem timesUp_all (ats : List Int) (primary : Int) (polls : List PollV) (h : Int) : timesUp ats primary polls h = timesH ats primary polls h := by
  unfold timesUp timesH
  rw [List.filter_filter]
  by_cases e : h = primary
  · rw [if_pos e, if_pos e]
    have : polls.filter (fun p => decide (p.host = h) && (!decide (p.host = primary) && !p.lost)) = [] := by
      rw [List.filter_eq_nil_iff]
      intro p _
      rw [e]
      cases decide (p.host = primary) <;> simp
    rw [this, List.map_nil, List.append_nil]
  · rw [if_neg e, if_neg e, List.nil_append]
    congr 1
    refine List.filter_congr fun p _ => ?_
    by_cases h1 : p.host = h
    · have h2 : p.host ≠ primary := fun h3 => e (h1.symm.trans h3)
      rw [decide_eq_true h1, decide_eq_false h2]; rfl
    · rw [decide_eq_false h1]; rfl
theorem timesUp_vers (ats : List Int) (primary : Int) (k : Nat) (hk : k < ats.length) (h : Int) : updT (fun h => timesUp (ats.take k) primary [] h) primary ats[k] h = timesUp (ats.take (k + 1)) primary [] h := by
  unfold updT timesUp
  simp only [List.filter_nil, List.map_nil, List.append_nil]
  by_cases e : h = primary
  · rw [if_pos e, if_pos e, if_pos e, List.take_succ_eq_append_getElem hk]
  · rw [if_neg e, if_neg e, if_neg e]
theorem timesUp_poll (ats : List Int) (primary : Int) (polls : List PollV) (k : Nat) (hk : k < polls.length) (h : Int) (h1 : polls[k].host ≠ primary) (h2 : polls[k].lost = false) : updT (fun h => timesUp ats primary (polls.take k) h) polls[k].host polls[k].at_ h = timesUp ats primary (polls.take (k + 1)) h := by
  unfold updT timesUp
  rw [List.take_succ_eq_append_getElem hk, List.filter_append]
  have e1 : [polls[k]].filter (fun p => !decide (p.host = primary) && !p.lost) = [polls[k]] := by
    rw [List.filter_cons_of_pos (by rw [decide_eq_false h1, h2]; rfl)]; rfl
  rw [e1, List.filter_append, List.map_append]
  by_cases e : h = polls[k].host
  · rw [if_pos e, List.filter_cons_of_pos (by rw [decide_eq_true e.symm]), List.append_assoc]; rfl
  · rw [if_neg e, List.filter_cons_of_neg (by rw [decide_eq_false (Ne.symm e)]; decide)]
    simp
theorem timesUp_skip (ats : List Int) (primary : Int) (polls : List PollV) (k : Nat) (hk : k < polls.length) (h : Int) (h1 : polls[k].host = primary ∨ polls[k].lost = true) : timesUp ats primary (polls.take (k + 1)) h = timesUp ats primary (polls.take k) h := by
  unfold timesUp
  rw [List.take_succ_eq_append_getElem hk, List.filter_append]
  have e1 : [polls[k]].filter (fun p => !decide (p.host = primary) && !p.lost) = [] := by
    rw [List.filter_cons_of_neg]
    · rfl
    · rcases h1 with h1 | h1
      · rw [decide_eq_true h1]; simp
      · rw [h1]; simp
  rw [e1, List.append_nil]
structure GrpsI (l : List GrpI) (n : Nat) : Prop where
  len : ∀ g ∈ l, g.els.length ≤ n
theorem GrpsI.next {l l' : List GrpI} {n : Nat} (h : GrpsI l n) (h' : ∀ g ∈ l', g ∈ l ∨ g.els.length ≤ n + 1) : GrpsI l' (n + 1) := ⟨fun g hg => (h' g hg).elim (fun h1 => Nat.le_succ_of_le (h.len g h1)) id⟩
theorem grpI_loc {b c : Nat} {key x : Int} {els : List Int} : (⟨key, b, c, els ++ [x]⟩ : GrpI).loc = .row (.slice (some ⟨b, 0, none⟩) (els.length + 1) c) 3 1 (els.length + 1) (encs els ++ enc x) := by
  unfold GrpI.loc GrpI.v
  simp only [List.length_append, List.length_cons, List.length_nil, Nat.zero_add, encs_snoc]
theorem grpI_v {b c : Nat} {key x : Int} {els : List Int} : (⟨key, b, c, els ++ [x]⟩ : GrpI).v = .slice (some ⟨b, 0, none⟩) (els.length + 1) c := by
  unfold GrpI.v
  simp only [List.length_append, List.length_cons, List.length_nil, Nat.zero_add]
theorem all_bound (ats : List Int) (primary : Int) (polls : List PollV) (fin : Int) (hc : ats.length + polls.length ≤ 28) : ∀ k : Nat, (allServes ats primary polls fin k).length ≤ k * 28
  | 0 => by unfold allServes; simp
  | k + 1 => by
    have := all_bound ats primary polls fin hc k
    have h2 := serves_len ats primary polls fin k
    rw [all_len]; omega
section
variable {P : Program} {n : FK} {w0 w w' : World} {H0 H : Hp} {Q : Exit → Act → World → Prop} {env : List (Nat × Value)}
theorem T.takeTimes {c : Code} {gs : List GrpI} {k : Nat} {A B : Loc} (hn : (gs.map (·.key)).Nodup) (h : ∀ v, (aGet (k : Int) (iMap gs)).getD (.slice none 0 0) = v → T P n w0 H0 c Q env H (.row v 3 1 (getT gs k).length (encs (getT gs k)) :: A :: B :: iRows (restI gs (k + 1)))) : T P n w0 H0 c Q env H (A :: B :: iRows (restI gs k)) := by
  rcases iFind (l := gs) (a := (k : Int)) with hf | ⟨j, g, hf, hj, hgk⟩
  · have hno := find_none hf
    have hget : (aGet (k : Int) (iMap gs)).getD (.slice none 0 0) = .slice none 0 0 := by rw [(iput_new hf (.slice none 0 0)).1]; rfl
    have h1 := h _ hget
    rw [getT_none hno, rest_none hno] at h1
    exact T.nilRow 3 1 h1
  · have hgm := List.mem_of_getElem? hj
    have hget : (aGet (k : Int) (iMap gs)).getD (.slice none 0 0) = g.v := by rw [(iput_old hf (.slice none 0 0)).1]; rfl
    have h1 := h _ hget
    have hgt := getT_of hn hgm
    rw [hgk] at hgt
    rw [hgt] at h1
    refine T.perm (g.loc :: A :: B :: iRows (restI gs (k + 1))) ?_ h1
    have hp : (iRows (restI gs k)).Perm (g.loc :: iRows (restI gs (k + 1))) := (rest_perm hn hgm hgk).map GrpI.loc
    exact ((hp.cons B).cons A).trans (((List.Perm.swap _ _ _).cons A).trans (List.Perm.swap _ _ _))
end
section
variable {H : Hp} {w : World}
set_option maxHeartbeats 32000000 in
theorem c_Spread (l : Slc VersionV) (primary : Int) (polls : Slc PollV) (fin : Int) (hv : VersOK l.els fin) (hpl : polls.len ≤ 20) (hpI : I64 primary) (hs : Sat H w) (hR : Rules H) (hg : l.Good H) (hgp : polls.Good H) : Calls Tryz.prog 6 #[l.v, intV primary, polls.v, intV fin] w (RetF w H (fun p : Hp × Slc CopyV × Int => SpreadOK l.els primary polls.els fin p.2.1 p.2.2 ∧ p.2.1.Good p.1) (fun p => .tuple #[p.2.1.v, intV p.2.2]) (fun p => p.1)) := by
  have hlen := hg.len
  have hplen := hgp.len
  have hn1 := hv.n1
  have hn8 := hv.n8
  have hf1 := hv.fin1
  have hf2 := hv.fin2
  have hfI : I64 fin := by unfold I64; omega
  refine T.enter (vs := [l.v, intV primary, polls.v, intV fin]) (H := H) Tryz.func6 rfl rfl rfl hs ?_
  by_cases hpr : 0 ≤ primary ∧ primary < 64
  case neg =>
    repeat (any_goals (first | refine T.seq ?_ | refine T.region ?_ | refine TL.nil ?_ | refine N.next ?_ | refine N.ret_then ?_ | refine T.ret ?_ | (apply T.cond_true; rfl) | (apply TL.skip; rfl; rfl; rfl) | (apply TL.callE (f := 17) [intV fin] Tryz.call17; (iterate 4 rfl); (exact fun _ hs => (decide_eq_true (show 1 ≤ fin ∧ fin ≤ 10000000 from ⟨hf1, hf2⟩)) ▸ c_isEnd fin hs.sat)) | (apply TL.callE (f := 18) [l.v, intV fin] Tryz.call18; (iterate 4 rfl); (exact fun _ hs => c_right l fin hv hs.sat hR hg)) | (apply TL.callE (f := 19) [intV primary] Tryz.call19; (iterate 4 rfl); (exact fun _ hs => (decide_eq_false hpr) ▸ c_isHost primary hs.sat)) | (apply TL.val; rfl; rfl; (first | exact vpure | exact vread))))
    all_goals (try contradiction)
    exact N.ret2 rfl (by (exact rvx)) (by (exact rvx)) fun w1 hst => ⟨(H, Slc.nil _, 1), ⟨⟨fun _ => rfl, (fun h => absurd (show (1 : Int) = 0 from h) (by decide)), fun h => absurd h hpr⟩, Slc.nil_good⟩, rfl, hst.fresh⟩
  by_cases hbad : polls.els.any (pollBad fin) = true
  case pos =>
    have hno : ¬ pollsOK polls.els fin := fun h => by rw [pollsOK_iff.2 h] at hbad; cases hbad
    repeat (any_goals (first | refine T.seq ?_ | refine T.region ?_ | refine TL.nil ?_ | refine N.next ?_ | refine N.ret_then ?_ | refine T.ret ?_ | (apply T.cond_true; rfl) | (apply TL.callE (f := 17) [intV fin] Tryz.call17; (iterate 4 rfl); (exact fun _ hs => (decide_eq_true (show 1 ≤ fin ∧ fin ≤ 10000000 from ⟨hf1, hf2⟩)) ▸ c_isEnd fin hs.sat)) | (apply TL.callE (f := 18) [l.v, intV fin] Tryz.call18; (iterate 4 rfl); (exact fun _ hs => c_right l fin hv hs.sat hR hg)) | (apply TL.callE (f := 19) [intV primary] Tryz.call19; (iterate 4 rfl); (exact fun _ hs => (decide_eq_true hpr) ▸ c_isHost primary hs.sat)) | (apply TL.callE (f := 20) [polls.v, intV fin] Tryz.call20; (iterate 4 rfl); (exact fun _ hs => hbad ▸ c_rightPolls polls fin (by omega) hs.sat hgp)) | (apply TL.val; rfl; rfl; (first | exact vpure | exact vread))))
    all_goals (try contradiction)
    exact N.ret2 rfl (by (exact rvx)) (by (exact rvx)) fun w1 hst => ⟨(H, Slc.nil _, 1), ⟨⟨fun _ => rfl, (fun h => absurd (show (1 : Int) = 0 from h) (by decide)), fun _ h => absurd h hno⟩, Slc.nil_good⟩, rfl, hst.fresh⟩
  have hbad : polls.els.any (pollBad fin) = false := by simpa using hbad
  have hpok := pollsOK_iff.1 hbad
  obtain ⟨ats, hats⟩ : ∃ ats, atsOf l.els = ats := ⟨_, rfl⟩
  have hal : ats.length = l.len := by rw [← hats, atsOf, List.length_map, hlen]
  have hai : ∀ i (hi : i < l.els.length), ats[i]'(by omega) = l.els[i].at_ := fun i hi => by simp only [← hats, atsOf, List.getElem_map]
  repeat (any_goals (first | refine T.seq ?_ | refine T.region ?_ | refine TL.nil ?_ | refine N.next ?_ | refine T.skip ?_ | refine T.block ?_ | (apply T.cond_false; rfl) | (apply TL.callE (f := 17) [intV fin] Tryz.call17; (iterate 4 rfl); (exact fun _ hs => (decide_eq_true (show 1 ≤ fin ∧ fin ≤ 10000000 from ⟨hf1, hf2⟩)) ▸ c_isEnd fin hs.sat)) | (apply TL.callE (f := 18) [l.v, intV fin] Tryz.call18; (iterate 4 rfl); (exact fun _ hs => c_right l fin hv hs.sat hR hg)) | (apply TL.callE (f := 19) [intV primary] Tryz.call19; (iterate 4 rfl); (exact fun _ hs => (decide_eq_true hpr) ▸ c_isHost primary hs.sat)) | (apply TL.callE (f := 20) [polls.v, intV fin] Tryz.call20; (iterate 4 rfl); (exact fun _ hs => hbad ▸ c_rightPolls polls fin (by omega) hs.sat hgp)) | (apply TL.x; rfl; rfl; (apply X.makeMap (d := 44) (fun a : Int => intV a); rfl); intro bm _) | (apply TL.val; rfl; rfl; (first | exact vpure | exact vread))))
  all_goals (try contradiction)
  refine T.loop (G := Nat × List GrpI) (fun g => [(0, l.v), (1, intV primary), (2, polls.v), (3, intV fin), (10, .map (some bm)), (45, l.v), (46, intV l.len), (47, intV g.1)]) (fun _ => H) (fun g => .any bm (mObj (fun a : Int => intV a) (iMap g.2)) :: iRows g.2) (fun g => g.1 ≤ l.len ∧ TimesOK g.2 (fun h => timesUp (ats.take g.1) primary [] h) ∧ GrpsI g.2 g.1) (fun g => l.len - g.1) (0, []) ⟨Nat.zero_le _, ⟨by simp, fun h => by simp [timesUp, getT]⟩, ⟨fun g hg => by cases hg⟩⟩ (by (repeat (first | exact True.intro | refine ⟨rfl, ?_⟩ | refine Sub.int rfl (by omega) ?_))) rfl (by exact List.Sublist.refl _) ?_
  rintro ⟨k, gs⟩ ⟨hk, hT, hG⟩
  simp only at hk hT hG ⊢
  by_cases hlt : k < l.len
  case pos =>
    have hkl : k < l.els.length := by omega
    have hka : k < ats.length := by omega
    have hrow := hg.row (k := k) hlt
    have hup := timesUp_vers ats primary k hka
    rw [hai k hkl] at hup
    obtain ⟨x, hx⟩ : ∃ x, l.els[k]'hkl = x := ⟨_, rfl⟩
    rw [hx] at hup
    try rw [hx] at hrow
    rcases iFind (l := gs) (a := primary) with hf | ⟨j, g, hf, hj, hgk⟩
    · have hget : (aGet primary (iMap gs)).getD (.slice none 0 0) = .slice none 0 0 := by rw [(iput_new hf (.slice none 0 0)).1]; rfl
      have hput := fun v => (iput_new hf v).2
      refine T.nilRow 3 1 ?_
      refine T.perm (.any bm (mObj (fun a : Int => intV a) (iMap gs)) :: (iRows gs ++ [.row (.slice none 0 0) 3 1 0 []])) (List.perm_append_singleton _ (.any bm (mObj (fun a : Int => intV a) (iMap gs)) :: iRows gs)).symm ?_
      have hat : (iRows gs ++ [Loc.row (.slice none 0 0) 3 1 0 []])[gs.length]? = some (Loc.row (.slice none 0 0) 3 1 0 []) := by rw [← iRows_len gs]; exact get_endI _ _
      have hset : ∀ y, (iRows gs ++ [Loc.row (.slice none 0 0) 3 1 0 []]).set gs.length y = iRows gs ++ [y] := fun y => by rw [← iRows_len gs]; exact set_endI _ _ _
      repeat (any_goals (first | refine T.seq ?_ | refine T.region ?_ | refine TL.nil ?_ | refine N.next ?_ | refine N.inBlock ?_ | refine N.exit_same ?_ | refine N.exit_then ?_ | refine T.skip ?_ | refine T.exit ?_ | refine T.block ?_ | (apply T.test; rfl; (exact isx); intro _; rotate_left; intro _; rotate_right) | (apply TL.val; rfl; rfl; (apply V.elem (j := k); (iterate 6 rfl); omega; exact hg.at_ (by omega))) | (apply TL.val; rfl; rfl; (apply V.load_H_row; rfl; rfl; rfl; exact hrow; rfl)) | (apply TL.x; rfl; rfl; (apply X.alloc (d := 12); rfl; rfl; rfl); intro b12 _) | (apply TL.x; rfl; rfl; (apply X.storeTo 0 (enc x); (iterate 10 rfl)); intro _ _) | (apply TL.val; rfl; rfl; (apply V.mlookup (mk := fun a : Int => intV a) primary; rfl; rfl; rfl; exact keyI Tryz.underlying3; rfl; rfl; exact List.Mem.tail _ (List.Mem.head _); exact hget)) | (apply TL.x; rfl; rfl; (apply X.buildSlice1 (d := 58); (iterate 8 rfl)); intro b58 _) | (apply TL.x; rfl; rfl; (apply X.append1 (gs.length + 3); (iterate 7 rfl); exact hat; rfl; exact List.Mem.head _; rfl; rfl; rfl; decide; decide); intro pa _) | (apply TL.x; rfl; rfl; (apply X.mput (mk := fun a : Int => intV a) 2 primary; rfl; rfl; exact keyI Tryz.underlying3; (iterate 4 rfl); exact mput_toD (hput _) rfl); intro _ _) | (apply TL.val; rfl; rfl; (first | exact vpure | exact vread))))
      all_goals (try contradiction)
      all_goals (try (exfalso; omega))
      refine N.round (k + 1, gs ++ [⟨primary, pa.1, pa.2, [x.at_]⟩]) ⟨by show k + 1 ≤ _; omega, (hT.new (find_none hf)).congr hup, hG.next fun g hg => ?_⟩ (by show l.len - (k + 1) < l.len - k; omega) (by (repeat (first | exact True.intro | refine ⟨rfl, ?_⟩ | refine Sub.int rfl (by omega) ?_))) rfl ?_
      · rcases List.mem_append.1 hg with hg | hg
        · exact .inl hg
        · rw [List.mem_singleton.1 hg]; exact .inr (by show 1 ≤ k + 1; omega)
      · simp only [iMap_snoc, iRows_snoc]
        refine List.Sublist.trans ?_ (List.sublist_append_right [_, _] _)
        show List.Sublist _ (_ :: (iRows gs ++ [_]).set gs.length _)
        rw [hset]
        exact List.Sublist.refl _
    · have hget : (aGet primary (iMap gs)).getD (.slice none 0 0) = g.v := by rw [(iput_old hf (.slice none 0 0)).1]; rfl
      have hput := fun v => (iput_old hf v).2
      have hgl := hG.len g (List.mem_of_getElem? hj)
      have hat := iRows_at hj
      repeat (any_goals (first | refine T.seq ?_ | refine T.region ?_ | refine TL.nil ?_ | refine N.next ?_ | refine N.inBlock ?_ | refine N.exit_same ?_ | refine N.exit_then ?_ | refine T.skip ?_ | refine T.exit ?_ | refine T.block ?_ | (apply T.test; rfl; (exact isx); intro _; rotate_left; intro _; rotate_right) | (apply TL.val; rfl; rfl; (apply V.elem (j := k); (iterate 6 rfl); omega; exact hg.at_ (by omega))) | (apply TL.val; rfl; rfl; (apply V.load_H_row; rfl; rfl; rfl; exact hrow; rfl)) | (apply TL.x; rfl; rfl; (apply X.alloc (d := 12); rfl; rfl; rfl); intro b12 _) | (apply TL.x; rfl; rfl; (apply X.storeTo 0 (enc x); (iterate 10 rfl)); intro _ _) | (apply TL.val; rfl; rfl; (apply V.mlookup (mk := fun a : Int => intV a) primary; rfl; rfl; rfl; exact keyI Tryz.underlying3; rfl; rfl; exact List.Mem.tail _ (List.Mem.head _); exact hget)) | (apply TL.x; rfl; rfl; (apply X.buildSlice1 (d := 58); (iterate 8 rfl)); intro b58 _) | (apply TL.x; rfl; rfl; (apply X.append1 (j + 3); (iterate 7 rfl); exact hat; rfl; exact List.Mem.head _; rfl; rfl; rfl; (refine Nat.le_trans (Nat.mul_le_mul_right _ (show _ ≤ 20001 by omega)) ?_; decide); omega); intro pa _) | (apply TL.x; rfl; rfl; (apply X.mput (mk := fun a : Int => intV a) 2 primary; rfl; rfl; exact keyI Tryz.underlying3; (iterate 4 rfl); exact mput_toD (hput _) rfl); intro _ _) | (apply TL.val; rfl; rfl; (first | exact vpure | exact vread))))
      all_goals (try contradiction)
      all_goals (try (exfalso; omega))
      refine N.round (k + 1, gs.set j ⟨primary, pa.1, pa.2, g.els ++ [x.at_]⟩) ⟨by show k + 1 ≤ _; omega, (hT.add hj hgk).congr hup, hG.next fun g' hg' => ?_⟩ (by show l.len - (k + 1) < l.len - k; omega) (by (repeat (first | exact True.intro | refine ⟨rfl, ?_⟩ | refine Sub.int rfl (by omega) ?_))) rfl ?_
      · rcases List.mem_or_eq_of_mem_set hg' with hg' | hg'
        · exact .inl hg'
        · rw [hg']; exact .inr (by show (g.els ++ [x.at_]).length ≤ k + 1; rw [List.length_append, List.length_cons, List.length_nil]; omega)
      · simp only [iMap_set, iRows_set, grpI_loc, grpI_v]
        exact List.sublist_append_right [_, _] _
  have hke : k = l.len := by omega
  subst hke
  rw [List.take_of_length_le (by omega)] at hT
  repeat (any_goals (first | refine T.seq ?_ | refine T.region ?_ | refine TL.nil ?_ | refine N.next ?_ | refine N.exit_same ?_ | refine N.exit_then ?_ | refine T.skip ?_ | refine T.exit ?_ | refine T.block ?_ | (apply T.test; rfl; (exact isx); intro _; rotate_left; intro _; rotate_right) | (apply TL.val; rfl; rfl; (first | exact vpure | exact vread)) | (apply TL.x; rfl; rfl; (first | exact xgrow | exact xput); intro _ _)))
  all_goals (try contradiction)
  all_goals (try (exfalso; omega))
  have hGl : GrpsI gs (l.len + 0) := ⟨hG.len⟩
  refine T.loop (G := Nat × List GrpI) (fun g => [(0, l.v), (1, intV primary), (2, polls.v), (3, intV fin), (10, .map (some bm)), (61, polls.v), (62, intV polls.len), (63, intV g.1)]) (fun _ => H) (fun g => .any bm (mObj (fun a : Int => intV a) (iMap g.2)) :: iRows g.2) (fun g => g.1 ≤ polls.len ∧ TimesOK g.2 (fun h => timesUp ats primary (polls.els.take g.1) h) ∧ GrpsI g.2 (l.len + g.1)) (fun g => polls.len - g.1) (0, gs) ⟨Nat.zero_le _, hT, hGl⟩ (by (repeat (first | exact True.intro | refine ⟨rfl, ?_⟩ | refine Sub.int rfl (by omega) ?_))) rfl (by exact List.Sublist.refl _) ?_
  clear hT hG hGl gs
  rintro ⟨k, gs⟩ ⟨hk, hT, hG⟩
  simp only at hk hT hG ⊢
  by_cases hlt : k < polls.len
  case pos =>
    have hkl : k < polls.els.length := by omega
    have hrow := hgp.row (k := k) hlt
    have hup := fun h => timesUp_poll ats primary polls.els k hkl h
    have hskip := fun h => timesUp_skip ats primary polls.els k hkl h
    obtain ⟨x, hx⟩ : ∃ x, polls.els[k]'hkl = x := ⟨_, rfl⟩
    simp only [hx] at hup hskip
    try rw [hx] at hrow
    by_cases h1 : x.host = primary
    · repeat (any_goals (first | refine T.seq ?_ | refine T.region ?_ | refine TL.nil ?_ | refine N.next ?_ | refine N.inBlock ?_ | refine N.exit_same ?_ | refine N.exit_then ?_ | refine T.skip ?_ | refine T.exit ?_ | refine T.block ?_ | (apply T.cond_false; rfl) | (apply T.test; rfl; (exact isx); intro _; rotate_left; intro _; rotate_right) | (apply TL.skip; rfl; rfl; rfl) | (apply TL.val; rfl; rfl; (apply V.elem (j := k); (iterate 6 rfl); omega; exact hgp.at_ (by omega))) | (apply TL.val; rfl; rfl; (apply V.load_H_row; rfl; rfl; rfl; exact hrow; rfl)) | (apply TL.x; rfl; rfl; (apply X.alloc (d := 14); rfl; rfl; rfl); intro b14 _) | (apply TL.x; rfl; rfl; (apply X.storeTo 0 (enc x); (iterate 10 rfl)); intro _ _) | (apply TL.val; rfl; rfl; (apply V.neqE h1; rfl; rfl)) | (apply TL.val; rfl; rfl; (first | exact vpure | exact vread))))
      all_goals (try contradiction)
      all_goals (try (exfalso; omega))
      exact N.round (k + 1, gs) ⟨by show k + 1 ≤ _; omega, hT.congr (fun h => (hskip h (.inl h1)).symm), ⟨fun g hg => Nat.le_succ_of_le (hG.len g hg)⟩⟩ (by show polls.len - (k + 1) < polls.len - k; omega) (by (repeat (first | exact True.intro | refine ⟨rfl, ?_⟩ | refine Sub.int rfl (by omega) ?_))) rfl (List.sublist_cons_self _ _)
    · cases h2 : x.lost with
      | true =>
        have hxe : enc x = [intV x.host, intV x.at_, .bool true] := by show [intV x.host, intV x.at_, Value.bool x.lost] = _; rw [h2]
        rw [hxe] at hrow
        repeat (any_goals (first | refine T.seq ?_ | refine T.region ?_ | refine TL.nil ?_ | refine N.next ?_ | refine N.inBlock ?_ | refine N.exit_same ?_ | refine N.exit_then ?_ | refine T.skip ?_ | refine T.exit ?_ | refine T.block ?_ | (apply T.cond_false; rfl) | (apply T.test; rfl; (exact isx); intro _; rotate_left; intro _; rotate_right) | (apply TL.val; rfl; rfl; (apply V.elem (j := k); (iterate 6 rfl); omega; exact hgp.at_ (by omega))) | (apply TL.val; rfl; rfl; (apply V.load_H_row; rfl; rfl; rfl; exact hrow; rfl)) | (apply TL.x; rfl; rfl; (apply X.alloc (d := 14); rfl; rfl; rfl); intro b14 _) | (apply TL.x; rfl; rfl; (apply X.storeTo 0 [intV x.host, intV x.at_, .bool true]; (iterate 10 rfl)); intro _ _) | (apply TL.val; rfl; rfl; (apply V.neqT h1; rfl; rfl)) | (apply TL.val; rfl; rfl; (first | exact vpure | exact vread))))
        all_goals (try contradiction)
        all_goals (try (exfalso; omega))
        exact N.round (k + 1, gs) ⟨by show k + 1 ≤ _; omega, hT.congr (fun h => (hskip h (.inr h2)).symm), ⟨fun g hg => Nat.le_succ_of_le (hG.len g hg)⟩⟩ (by show polls.len - (k + 1) < polls.len - k; omega) (by (repeat (first | exact True.intro | refine ⟨rfl, ?_⟩ | refine Sub.int rfl (by omega) ?_))) rfl (List.sublist_cons_self _ _)
      | false =>
        have hxe : enc x = [intV x.host, intV x.at_, .bool false] := by show [intV x.host, intV x.at_, Value.bool x.lost] = _; rw [h2]
        rw [hxe] at hrow
        have hup := fun h => hup h h1 h2
        rcases iFind (l := gs) (a := x.host) with hf | ⟨j, g, hf, hj, hgk⟩
        · have hget : (aGet x.host (iMap gs)).getD (.slice none 0 0) = .slice none 0 0 := by rw [(iput_new hf (.slice none 0 0)).1]; rfl
          have hput := fun v => (iput_new hf v).2
          refine T.nilRow 3 1 ?_
          refine T.perm (.any bm (mObj (fun a : Int => intV a) (iMap gs)) :: (iRows gs ++ [.row (.slice none 0 0) 3 1 0 []])) (List.perm_append_singleton _ (.any bm (mObj (fun a : Int => intV a) (iMap gs)) :: iRows gs)).symm ?_
          have hat : (iRows gs ++ [Loc.row (.slice none 0 0) 3 1 0 []])[gs.length]? = some (Loc.row (.slice none 0 0) 3 1 0 []) := by rw [← iRows_len gs]; exact get_endI _ _
          have hset : ∀ y, (iRows gs ++ [Loc.row (.slice none 0 0) 3 1 0 []]).set gs.length y = iRows gs ++ [y] := fun y => by rw [← iRows_len gs]; exact set_endI _ _ _
          repeat (any_goals (first | (apply T.regionDS (id := 13) [.blk b14 37 [intV x.host, intV x.at_, .bool false], .any bm (mObj (fun a : Int => intV a) (iMap gs))] wide; rfl; (repeat (first | exact List.Sublist.refl _ | exact List.nil_sublist _ | apply List.Sublist.cons_cons | apply List.Sublist.cons))) | refine T.seq ?_ | refine T.region ?_ | refine TL.nil ?_ | refine N.next ?_ | refine N.inBlock ?_ | refine N.exit_same ?_ | refine N.exit_then ?_ | refine T.skip ?_ | refine T.exit ?_ | refine T.block ?_ | (apply T.cond_true; rfl) | (apply T.test; rfl; (exact isx); intro _; rotate_left; intro _; rotate_right) | (apply TL.val; rfl; rfl; (apply V.elem (j := k); (iterate 6 rfl); omega; exact hgp.at_ (by omega))) | (apply TL.val; rfl; rfl; (apply V.load_H_row; rfl; rfl; rfl; exact hrow; rfl)) | (apply TL.x; rfl; rfl; (apply X.alloc (d := 14); rfl; rfl; rfl); intro b14 _) | (apply TL.x; rfl; rfl; (apply X.storeTo 0 [intV x.host, intV x.at_, .bool false]; (iterate 10 rfl)); intro _ _) | (apply TL.val; rfl; rfl; (apply V.neqT h1; rfl; rfl)) | (apply GT.read; (iterate 4 rfl); (apply V.mlookup (mk := fun a : Int => intV a) x.host; rfl; rfl; rfl; exact keyI Tryz.underlying3; rfl; rfl; exact List.Mem.tail _ (List.Mem.head _); exact hget); decide +kernel) | (apply GS.grow; rfl; rfl; (apply X.buildSlice1 (d := 85); (iterate 8 rfl)); intro b85 _) | (apply GS.effS; rfl; rfl; (apply X.append1 (gs.length + 3); (iterate 7 rfl); exact hat; rfl; exact List.Mem.head _; rfl; rfl; rfl; decide; decide); (intro _; rfl); (intro _; (repeat (first | exact List.Sublist.refl _ | exact List.nil_sublist _ | apply List.Sublist.cons_cons | apply List.Sublist.cons))); intro pa _) | (apply GS.eff; rfl; decide +kernel; rfl; (apply X.mput (mk := fun a : Int => intV a) 2 x.host; rfl; rfl; exact keyI Tryz.underlying3; (iterate 4 rfl); exact mput_toD (hput _) rfl); intro _ _) | (apply TL.val; rfl; rfl; (first | exact vpure | exact vread)) | (apply GT.pure; (iterate 4 rfl); (first | exact vpure); decide +kernel) | (apply GT.read; (iterate 4 rfl); (first | exact vpure | exact vread); decide +kernel) | (apply GT.done; decide +kernel; apply N.ofQ) | (apply GT.adv; rfl) | (apply GT.fork1; decide +kernel)))
          all_goals (try contradiction)
          all_goals (try (exfalso; omega))
          refine N.round (k + 1, gs ++ [⟨x.host, pa.1, pa.2, [x.at_]⟩]) ⟨by show k + 1 ≤ _; omega, (hT.new (find_none hf)).congr hup, ⟨fun g hg => ?_⟩⟩ (by show polls.len - (k + 1) < polls.len - k; omega) (by (repeat (first | exact True.intro | refine ⟨rfl, ?_⟩ | refine Sub.int rfl (by omega) ?_))) rfl ?_
          · rcases List.mem_append.1 hg with hg | hg
            · exact Nat.le_succ_of_le (hG.len g hg)
            · rw [List.mem_singleton.1 hg]; show 1 ≤ l.len + (k + 1); omega
          · simp only [iMap_snoc, iRows_snoc]
            refine List.Sublist.trans ?_ (List.sublist_append_right [_, _] _)
            show List.Sublist _ (_ :: (iRows gs ++ [_]).set gs.length _)
            rw [hset]
            exact List.Sublist.refl _
        · have hget : (aGet x.host (iMap gs)).getD (.slice none 0 0) = g.v := by rw [(iput_old hf (.slice none 0 0)).1]; rfl
          have hput := fun v => (iput_old hf v).2
          have hgl := hG.len g (List.mem_of_getElem? hj)
          have hat := iRows_at hj
          repeat (any_goals (first | (apply T.regionDS (id := 13) [.blk b14 37 [intV x.host, intV x.at_, .bool false], .any bm (mObj (fun a : Int => intV a) (iMap gs))] wide; rfl; (repeat (first | exact List.Sublist.refl _ | exact List.nil_sublist _ | apply List.Sublist.cons_cons | apply List.Sublist.cons))) | refine T.seq ?_ | refine T.region ?_ | refine TL.nil ?_ | refine N.next ?_ | refine N.inBlock ?_ | refine N.exit_same ?_ | refine N.exit_then ?_ | refine T.skip ?_ | refine T.exit ?_ | refine T.block ?_ | (apply T.cond_true; rfl) | (apply T.test; rfl; (exact isx); intro _; rotate_left; intro _; rotate_right) | (apply TL.val; rfl; rfl; (apply V.elem (j := k); (iterate 6 rfl); omega; exact hgp.at_ (by omega))) | (apply TL.val; rfl; rfl; (apply V.load_H_row; rfl; rfl; rfl; exact hrow; rfl)) | (apply TL.x; rfl; rfl; (apply X.alloc (d := 14); rfl; rfl; rfl); intro b14 _) | (apply TL.x; rfl; rfl; (apply X.storeTo 0 [intV x.host, intV x.at_, .bool false]; (iterate 10 rfl)); intro _ _) | (apply TL.val; rfl; rfl; (apply V.neqT h1; rfl; rfl)) | (apply GT.read; (iterate 4 rfl); (apply V.mlookup (mk := fun a : Int => intV a) x.host; rfl; rfl; rfl; exact keyI Tryz.underlying3; rfl; rfl; exact List.Mem.tail _ (List.Mem.head _); exact hget); decide +kernel) | (apply GS.grow; rfl; rfl; (apply X.buildSlice1 (d := 85); (iterate 8 rfl)); intro b85 _) | (apply GS.effS; rfl; rfl; (apply X.append1 (j + 3); (iterate 7 rfl); exact hat; rfl; exact List.Mem.head _; rfl; rfl; rfl; (refine Nat.le_trans (Nat.mul_le_mul_right _ (show _ ≤ 20001 by omega)) ?_; decide); omega); (intro _; rfl); (intro _; (repeat (first | exact List.Sublist.refl _ | exact List.nil_sublist _ | apply List.Sublist.cons_cons | apply List.Sublist.cons))); intro pa _) | (apply GS.eff; rfl; decide +kernel; rfl; (apply X.mput (mk := fun a : Int => intV a) 2 x.host; rfl; rfl; exact keyI Tryz.underlying3; (iterate 4 rfl); exact mput_toD (hput _) rfl); intro _ _) | (apply TL.val; rfl; rfl; (first | exact vpure | exact vread)) | (apply GT.pure; (iterate 4 rfl); (first | exact vpure); decide +kernel) | (apply GT.read; (iterate 4 rfl); (first | exact vpure | exact vread); decide +kernel) | (apply GT.done; decide +kernel; apply N.ofQ) | (apply GT.adv; rfl) | (apply GT.fork1; decide +kernel)))
          all_goals (try contradiction)
          all_goals (try (exfalso; omega))
          refine N.round (k + 1, gs.set j ⟨x.host, pa.1, pa.2, g.els ++ [x.at_]⟩) ⟨by show k + 1 ≤ _; omega, (hT.add hj hgk).congr hup, ⟨fun g' hg' => ?_⟩⟩ (by show polls.len - (k + 1) < polls.len - k; omega) (by (repeat (first | exact True.intro | refine ⟨rfl, ?_⟩ | refine Sub.int rfl (by omega) ?_))) rfl ?_
          · rcases List.mem_or_eq_of_mem_set hg' with hg' | hg'
            · exact Nat.le_succ_of_le (hG.len g' hg')
            · rw [hg']; show (g.els ++ [x.at_]).length ≤ l.len + (k + 1); rw [List.length_append, List.length_cons, List.length_nil]; omega
          · simp only [iMap_set, iRows_set, grpI_loc, grpI_v]
            exact List.sublist_append_right [_, _] _
  have hke : k = polls.len := by omega
  subst hke
  rw [List.take_of_length_le (by omega)] at hT
  have hT := hT.congr (timesUp_all ats primary polls.els)
  have hbl : ats.length + polls.els.length ≤ 28 := by omega
  have hord := hv.order
  have hxI : ∀ k : Nat, ∀ x ∈ timesH ats primary polls.els k, I64 x := fun k x hx => by
    unfold timesH at hx
    split at hx
    · obtain ⟨i, hi, rfl⟩ := List.mem_iff_getElem.1 hx
      rw [hai i (by omega)]
      exact (hg.els _ (List.getElem_mem _)).1
    · obtain ⟨p, hp, rfl⟩ := List.mem_map.1 hx
      exact (hgp.els p (List.mem_filter.1 hp).1).2
  have hxL : ∀ k : Nat, (timesH ats primary polls.els k).length ≤ 4000 := fun k => Nat.le_trans (times_len ats primary polls.els k) (by omega)
  have hgt := fun k : Nat => hT.all (k : Int)
  repeat (any_goals (first | refine T.seq ?_ | refine T.region ?_ | (apply T.regionD wide; rfl) | refine TL.nil ?_ | refine N.next ?_ | refine N.inBlock ?_ | refine N.exit_same ?_ | refine N.exit_then ?_ | refine T.skip ?_ | refine T.exit ?_ | refine T.block ?_ | (apply T.cond_false; rfl) | (apply T.test; rfl; (exact isx); intro _; rotate_left; intro _; rotate_right) | (apply TL.skip; rfl; rfl; rfl) | (apply TL.x; rfl; rfl; (apply X.makeSlice (Slc.nil StrV) 64 (d := 88); (iterate 10 rfl); decide; decide); intro bs _) | (apply TL.val; rfl; rfl; (first | exact vpure | exact vread)) | (apply GT.pure; (iterate 4 rfl); (first | exact vpure); decide +kernel) | (apply GT.read; (iterate 4 rfl); (first | exact vpure | exact vread); decide +kernel) | (apply TL.x; rfl; rfl; (first | exact xgrow | exact xput); intro _ _) | (apply TL.guard; rfl; rfl; rfl; (exact isx); intro _; rotate_left; intro _; rotate_right) | (apply GT.fork2 7; decide +kernel)))
  all_goals (try contradiction)
  all_goals (try (exfalso; omega))
  refine T.loop (G := Nat × Hp × List (Slc StrV)) (fun g => [(0, l.v), (3, intV fin), (10, .map (some bm)), (15, .slice (some ⟨bs, 0, none⟩) 64 64), (16, intV (allServes ats primary polls.els fin g.1).length), (89, .slice (some ⟨bs, 0, none⟩) 64 64), (90, intV 64), (91, intV g.1)]) (fun g => g.2.1) (fun g => .row (.slice (some ⟨bs, 0, none⟩) 64 64) 60 1 64 (encs g.2.2) :: .any bm (mObj (fun a : Int => intV a) (iMap gs)) :: iRows (restI gs g.1)) (fun g => g.1 ≤ 64 ∧ H.le g.2.1 ∧ g.2.2.length = 64 ∧ (∀ j (hj : j < g.2.2.length), j < g.1 → g.2.2[j].els = (servesH ats primary polls.els fin j).map strU ∧ g.2.2[j].Good g.2.1) ∧ (∀ j, g.1 ≤ j → j < 64 → g.2.2[j]? = some (Slc.nil StrV))) (fun g => 64 - g.1) (0, H, List.replicate 64 (Slc.nil StrV)) ⟨Nat.zero_le _, .refl _, List.length_replicate, fun j hj h => absurd h (Nat.not_lt_zero _), fun j _ hj => by rw [List.getElem?_replicate, if_pos hj]⟩ (by (repeat (first | exact True.intro | refine ⟨rfl, ?_⟩ | refine Sub.int rfl (by omega) ?_))) rfl (.cons_cons _ (.cons_cons _ (List.filter_sublist.map _))) ?_
  rintro ⟨k, H1, svs⟩ ⟨hk, hle, hsl, hdone, hleft⟩
  simp only at hk hle hsl hdone hleft ⊢
  by_cases hlt : k < 64
  case pos =>
    have hg1 := hg.mono hle
    have hnil := hleft k (Nat.le_refl _) hlt
    have hcb := all_bound ats primary polls.els fin hbl k
    have hal2 := all_len ats primary polls.els fin k
    have hsb := serves_len ats primary polls.els fin k
    refine T.takeTimes hT.nodup fun v hget => ?_
    rw [hgt k]
    have hc := fun {w0 : World} {TT : List Loc} {w : World} (hs : St w0 H H1 (.row v 3 1 (timesH ats primary polls.els k).length (encs (timesH ats primary polls.els k)) :: TT) w) => c_stretches l (timesH ats primary polls.els k) fin v hord (by omega) (hxL k) (hxI k) hfI hs hg1
    rw [hats] at hc
    repeat (any_goals (first | refine T.seq ?_ | refine T.region ?_ | refine TL.nil ?_ | refine N.next ?_ | refine N.inBlock ?_ | refine N.exit_same ?_ | refine N.exit_then ?_ | refine N.ret_then ?_ | refine T.ret ?_ | refine T.skip ?_ | refine T.exit ?_ | refine T.block ?_ | (apply T.test; rfl; (exact isx); intro _; rotate_left; intro _; rotate_right) | (apply TL.val; rfl; rfl; (apply V.mlookup (mk := fun a : Int => intV a) (k : Int); rfl; rfl; rfl; exact keyI Tryz.underlying3; rfl; rfl; exact List.Mem.tail _ (List.Mem.tail _ (List.Mem.head _)); exact hget)) | (apply TL.x; rfl; rfl; (apply X.callB [l.v, v, intV fin] (f := 21); (iterate 4 rfl); exact Tryz.call21; exact fun _ hs => hc hs); rintro ⟨H2, sl⟩ ⟨hle2, hse, hsg⟩; dsimp only at hle2 hse hsg ⊢; have hsl2 : sl.els.length = sl.len := hsg.len; have hsl3 : sl.len = (servesH ats primary polls.els fin k).length := (by rw [← hsl2, hse, List.length_map]; rfl); have c1 : (encs (svs.set k sl))[0 + k * 1]? = some sl.v := (by rw [show 0 + k * 1 = k * Enc.size (Slc StrV) + 0 by (show _ = k * 1 + 0; omega)]; exact encs_get (svs.set k sl) k 0 sl _ (List.getElem?_set_self (by omega)) rfl)) | (apply TL.val; rfl; rfl; (apply V.elem (j := k); (iterate 6 rfl); omega; rfl)) | (apply TL.x; rfl; rfl; (exact X.storeRowE 0 (vs := [sl.v]) rfl rfl rfl rfl rfl rfl rfl (by show 0 + k * 1 + 1 ≤ 64 * 1; omega) (encs_put (j := 0) (y := sl) hnil (by show 0 + 1 ≤ 1; omega) rfl (by show 0 + k * 1 = k * 1 + 0; omega))); intro _ _) | (apply TL.val; rfl; rfl; (apply V.load_own; rfl; rfl; rfl; exact List.Mem.head _; exact c1)) | (apply TL.val; rfl; rfl; (first | exact vpure | exact vread))))
    all_goals (try contradiction)
    all_goals (try (exfalso; omega))
    refine N.round (k + 1, H2, svs.set k sl) ⟨by show k + 1 ≤ _; omega, hle.trans hle2, by simp only [List.length_set]; exact hsl, fun j hj hjk => ?_, fun j hjk hj => ?_⟩ (by show 64 - (k + 1) < 64 - k; omega) ?_ rfl (List.Sublist.refl _)
    · simp only [List.length_set] at hj
      simp only [List.getElem_set]
      by_cases e : k = j
      · subst e
        simp only [if_true]
        exact ⟨hse, hsg⟩
      · simp only [if_neg e]
        have := hdone j hj (by simp only at hjk; omega)
        exact ⟨this.1, this.2.mono hle2⟩
    · have hjk : k + 1 ≤ j := hjk
      simp only
      rw [List.getElem?_set_ne (by omega)]
      exact hleft j (by omega) hj
    · simp only [hal2]
      (repeat (first | exact True.intro | refine ⟨rfl, ?_⟩ | refine Sub.int rfl (by omega) ?_))
  have hke : k = 64 := by omega
  subst hke
  have hcb := all_bound ats primary polls.els fin hbl 64
  have hgood : ∀ y ∈ svs, Enc.good H1 y := fun y hy => by
    obtain ⟨j, hj, rfl⟩ := List.mem_iff_getElem.1 hy
    exact (hdone j hj (by omega)).2
  refine T.frzRow 0 (α := Slc StrV) (els := svs) rfl rfl hsl hgood fun H2 sv e1 e2 e3 hle2 => ?_
  have hsvl := e3.len
  rw [e2, hsl] at hsvl
  have hsvL : sv.len = 64 := hsvl.symm
  have hse : ∀ j (hj : j < sv.els.length), sv.els[j].els = (servesH ats primary polls.els fin j).map strU := fun j hj => by
    have hj2 : j < svs.length := by rw [← e2]; exact hj
    have e : sv.els[j] = svs[j] := by simp only [e2]
    rw [e]; exact (hdone j hj2 (by omega)).1
  have hsv : Value.slice (some ⟨bs, 0, none⟩) 64 64 = sv.v := e1.symm
  rw [hsv]
  have hlez := hle.trans hle2
  simp only [List.eraseIdx_cons_zero]
  repeat (any_goals (first | refine T.seq ?_ | refine T.region ?_ | refine TL.nil ?_ | refine N.next ?_ | refine N.exit_same ?_ | refine N.exit_then ?_ | refine N.ret_then ?_ | refine T.ret ?_ | refine T.skip ?_ | refine T.exit ?_ | refine T.block ?_ | (apply T.cond_false; rfl) | (apply T.test; rfl; (exact isx); intro _; rotate_left; intro _; rotate_right) | (apply TL.val; rfl; rfl; (apply V.lenE; (iterate 4 rfl); exact hsvL)) | (apply TL.val; rfl; rfl; (first | exact vpure | exact vread))))
  all_goals (try contradiction)
  all_goals (try (exfalso; omega))
  refine T.nilRow 50 5 ?_
  refine T.loop (G := Nat × Value × Hp × List CopyV) (fun g => [(0, l.v), (18, g.2.1), (113, sv.v), (114, intV 64), (115, intV g.1)]) (fun g => g.2.2.1) (fun g => [.row g.2.1 50 5 g.2.2.2.length (encs g.2.2.2)]) (fun g => g.1 ≤ 64 ∧ H2.le g.2.2.1 ∧ g.2.2.2.map copyC = (allServes ats primary polls.els fin g.1).map (convC l.els) ∧ ∀ y ∈ g.2.2.2, Enc.good g.2.2.1 y) (fun g => 64 - g.1) (0, .slice none 0 0, H2, []) ⟨Nat.zero_le _, .refl _, by simp [allServes], fun y hy => by cases hy⟩ (by (repeat (first | exact True.intro | refine ⟨rfl, ?_⟩ | refine Sub.int rfl (by omega) ?_))) rfl (.cons_cons _ (List.nil_sublist _)) ?_
  rintro ⟨k, v18, H3, cs⟩ ⟨hk, hle3, hmap, hcg⟩
  simp only at hk hle3 hmap hcg ⊢
  by_cases hlt : k < 64
  case pos =>
    have hks : k < sv.els.length := by rw [e2, hsl]; exact hlt
    have e33 := e3.mono hle3
    have hsk := hse k hks
    have hskg : (sv.els[k]'hks).Good H3 := e33.els _ (List.getElem_mem hks)
    have c0 : H3.cell sv.b (sv.o + k * 1) = some (sv.els[k]'hks).v := e33.cell0 (k := k) (by omega) rfl
    obtain ⟨sl, hsle⟩ : ∃ sl, sv.els[k]'hks = sl := ⟨_, rfl⟩
    rw [hsle] at hsk hskg c0
    have hskl := hskg.len
    rw [hsk, List.length_map] at hskl
    have hcb1 := all_bound ats primary polls.els fin hbl (k + 1)
    have hal2 := all_len ats primary polls.els fin k
    have hnx := all_next ats primary polls.els fin k
    repeat (any_goals (first | refine T.seq ?_ | refine T.region ?_ | refine TL.nil ?_ | refine N.next ?_ | refine N.exit_same ?_ | refine N.exit_then ?_ | refine T.ret ?_ | refine T.skip ?_ | refine T.exit ?_ | refine T.block ?_ | (apply T.test; rfl; (exact isx); intro _; rotate_left; intro _; rotate_right) | (apply TL.val; rfl; rfl; (apply V.elem (j := k); (iterate 6 rfl); omega; exact e33.at_ (by omega))) | (apply TL.val; rfl; rfl; (apply V.load_H; rfl; rfl; rfl; exact c0)) | (apply TL.val; rfl; rfl; (first | exact vpure | exact vread))))
    all_goals (try contradiction)
    all_goals (try (exfalso; omega))
    refine T.loop (G := Nat × Value × Hp × List CopyV) (fun g => [(0, l.v), (113, sv.v), (114, intV 64), (115, intV k), (19, intV k), (18, g.2.1), (120, sl.v), (121, intV sl.len), (122, intV g.1)]) (fun g => g.2.2.1) (fun g => [.row g.2.1 50 5 g.2.2.2.length (encs g.2.2.2)]) (fun g => g.1 ≤ sl.len ∧ H3.le g.2.2.1 ∧ g.2.2.2.map copyC = (allServes ats primary polls.els fin k ++ (tagH k (servesH ats primary polls.els fin k)).take g.1).map (convC l.els) ∧ ∀ y ∈ g.2.2.2, Enc.good g.2.2.1 y) (fun g => sl.len - g.1) (0, v18, H3, cs) ⟨Nat.zero_le _, .refl _, by rw [List.take_zero, List.append_nil]; exact hmap, hcg⟩ (by (repeat (first | exact True.intro | refine ⟨rfl, ?_⟩ | refine Sub.int rfl (by omega) ?_))) rfl (by exact List.Sublist.refl _) ?_
    rintro ⟨i, v18, H4, cs⟩ ⟨hi, hle4, hmap, hcg⟩
    simp only at hi hle4 hmap hcg ⊢
    by_cases hlt2 : i < sl.len
    · have his : i < (servesH ats primary polls.els fin k).length := by omega
      have hil : i < sl.els.length := by have := hskg.len; omega
      have hg4 := hg.mono ((hlez.trans hle3).trans hle4)
      have hskg4 := hskg.mono hle4
      have hrow := hskg4.row (k := i) hlt2
      obtain ⟨q, hq⟩ : ∃ q, (servesH ats primary polls.els fin k)[i]'his = q := ⟨_, rfl⟩
      have hxe : sl.els[i]'hil = strU q := by simp only [hsk, List.getElem_map, hq]
      have hqv : q.2.2 < ats.length := by rw [← hq]; exact serves_ver (List.getElem_mem his)
      have hqm := List.getElem_mem his
      rw [hq] at hqm
      have hxg := hskg4.els _ (List.getElem_mem hil)
      rw [hxe] at hxg
      rw [hxe, show enc (strU q) = [intV q.1, intV q.2.1, intV (q.2.2 : Nat)] from rfl] at hrow
      have hvl : q.2.2 < l.els.length := by omega
      have hz := hg4.part (k := q.2.2) (j := 1) (m := 2) (by omega) (vs := enc (l.els[q.2.2]'hvl).zone) rfl
      have hzr := hv.zone _ (List.getElem_mem hvl)
      have hzf := hv.few _ (List.getElem_mem hvl)
      have hzg := (hg4.els _ (List.getElem_mem hvl)).2
      have hzc : zcOf l.els q.2.2 = (l.els[q.2.2]'hvl).zone.c := by unfold zcOf; rw [List.getElem?_eq_getElem hvl]
      obtain ⟨z, hze⟩ : ∃ z, (l.els[q.2.2]'hvl).zone = z := ⟨_, rfl⟩
      rw [hze] at hzr hzf hzg hzc hz
      have htk : (tagH k (servesH ats primary polls.els fin k)).take (i + 1) = (tagH k (servesH ats primary polls.els fin k)).take i ++ [((k : Int), q.1, q.2.1, q.2.2)] := by
        unfold tagH
        rw [List.take_succ_eq_append_getElem (by rw [List.length_map]; exact his), List.getElem_map, hq]
      have hcl : cs.length ≤ 2000 := by
        have := congrArg List.length hmap
        rw [List.length_map, List.length_map, List.length_append, List.length_take] at this
        unfold tagH at this
        rw [List.length_map] at this
        omega
      repeat (any_goals (first | refine T.seq ?_ | refine T.region ?_ | refine TL.nil ?_ | refine N.next ?_ | refine N.inBlock ?_ | refine N.exit_same ?_ | refine N.exit_then ?_ | refine T.skip ?_ | refine T.exit ?_ | refine T.block ?_ | (apply T.test; rfl; (exact isx); intro _; rotate_left; intro _; rotate_right) | (apply TL.val; rfl; rfl; (apply V.elem (j := i); (iterate 6 rfl); omega; exact hskg4.at_ (by omega))) | (apply TL.val; rfl; rfl; (apply V.load_H_row; rfl; rfl; rfl; exact hrow; rfl)) | (apply TL.x; rfl; rfl; (apply X.alloc (d := 22); rfl; rfl; rfl); intro b22 _) | (apply TL.x; rfl; rfl; (apply X.storeTo 0 [intV q.1, intV q.2.1, intV (q.2.2 : Nat)]; (iterate 10 rfl)); intro _ _) | (apply TL.val; rfl; rfl; (apply V.elem (j := q.2.2); (iterate 6 rfl); omega; exact hg4.at_ (by omega))) | (apply TL.val; rfl; rfl; (apply V.load_H_row; rfl; rfl; rfl; exact hz; rfl)) | (apply TL.x; rfl; rfl; (apply X.callFE (f := 22) [.agg (enc z).toArray] Tryz.call22; rfl; rfl; rfl; exact (fun _ hs => c_ccloneZone z (by omega) (fun x hx => zoned_small hzr hzg hx) hs.sat hzg)); rintro ⟨H5, y⟩ ⟨⟨hy1, hy2⟩, hle5⟩; dsimp only at hy1 hy2 hle5 ⊢) | (apply TL.x; rfl; rfl; (apply X.alloc (d := 23); rfl; rfl; rfl); intro b23 _) | (apply TL.x; rfl; rfl; (apply X.storeTo 0 (enc y); (iterate 10 rfl)); intro _ _) | (apply TL.val; rfl; rfl; (apply V.build; (iterate 6 rfl))) | (apply TL.x; rfl; rfl; (apply X.buildSlice1 (d := 141); (iterate 8 rfl)); intro b141 _) | (apply TL.x; rfl; rfl; (apply X.append1 3; (iterate 9 rfl); exact List.Mem.head _; rfl; rfl; rfl; (refine Nat.le_trans (Nat.mul_le_mul_right _ (show _ ≤ 20001 by omega)) ?_; decide); omega); intro pa _) | (apply TL.val; rfl; rfl; (first | exact vpure | exact vread))))
      all_goals (try contradiction)
      all_goals (try (exfalso; omega))
      refine N.round (i + 1, .slice (some ⟨pa.1, 0, none⟩) (cs.length + 1) pa.2, H5, cs ++ [⟨k, q.1, q.2.1, y⟩]) ⟨by show i + 1 ≤ _; omega, hle4.trans hle5, ?_, fun x hx => ?_⟩ (by show sl.len - (i + 1) < sl.len - i; omega) (by (repeat (first | exact True.intro | refine ⟨rfl, ?_⟩ | refine Sub.int rfl (by omega) ?_))) rfl ?_
      · simp only [htk, List.map_append, List.map_cons, List.map_nil] at hmap ⊢
        rw [hmap, List.append_assoc]
        have hcc : copyC ⟨k, q.1, q.2.1, y⟩ = convC l.els ((k : Int), q.1, q.2.1, q.2.2) := by
          show ((k : Int), q.1, q.2.1, y.c) = ((k : Int), q.1, q.2.1, zcOf l.els q.2.2)
          rw [hy1, hzc]
        rw [hcc]
      · rcases List.mem_append.1 hx with hx | hx
        · exact Enc.mono hle5 (hcg x hx)
        · rw [List.mem_singleton.1 hx]
          exact ⟨by show I64 (k : Int); unfold I64; omega, hxg.1, hxg.2.1, hy2⟩
      · simp only [List.length_append, List.length_cons, List.length_nil, Nat.zero_add, encs_snoc]
        (repeat (first | exact List.Sublist.refl _ | exact List.nil_sublist _ | apply List.Sublist.cons_cons | apply List.Sublist.cons))
    · have hie : i = sl.len := by omega
      subst hie
      rw [List.take_of_length_le (by unfold tagH; rw [List.length_map]; omega), ← hnx] at hmap
      repeat (any_goals (first | refine T.seq ?_ | refine T.region ?_ | refine TL.nil ?_ | refine N.next ?_ | refine N.inBlock ?_ | refine N.exit_same ?_ | refine N.exit_then ?_ | refine T.skip ?_ | refine T.exit ?_ | refine T.block ?_ | (apply T.test; rfl; (exact isx); intro _; rotate_left; intro _; rotate_right) | (apply TL.val; rfl; rfl; (first | exact vpure | exact vread))))
      all_goals (try contradiction)
      all_goals (try (exfalso; omega))
      exact N.round (k + 1, v18, H4, cs) ⟨by show k + 1 ≤ _; omega, hle3.trans hle4, hmap, hcg⟩ (by show 64 - (k + 1) < 64 - k; omega) (by (repeat (first | exact True.intro | refine ⟨rfl, ?_⟩ | refine Sub.int rfl (by omega) ?_))) rfl (List.Sublist.refl _)
  have hke : k = 64 := by omega
  subst hke
  refine T.frzRow 0 (els := cs) rfl rfl rfl hcg fun H5 out o1 o2 o3 hle5 => ?_
  subst o1
  repeat (any_goals (first | refine T.seq ?_ | refine T.region ?_ | refine TL.nil ?_ | refine N.next ?_ | refine N.exit_same ?_ | refine N.exit_then ?_ | refine T.ret ?_ | refine T.exit ?_ | (apply T.cond_false; rfl) | (apply TL.val; rfl; rfl; (first | exact vpure | exact vread))))
  all_goals (try contradiction)
  all_goals (try (exfalso; omega))
  refine N.ret2 rfl (by (exact rvx)) (by (exact rvx)) fun w1 hst => ⟨(H5, out, 0), ⟨⟨fun h => absurd rfl h, fun _ => ⟨hpr, ?_⟩, fun _ _ _ => rfl⟩, o3⟩, rfl, ⟨hst.fresh.below, hst.fresh.sat, hst.fresh.le, hst.fresh.new⟩⟩
  show out.els.map copyC = _
  rw [o2, hats]
  exact hmap
end
end Go.Proofs.YthabgdbhgcgemaaGreatDoor
