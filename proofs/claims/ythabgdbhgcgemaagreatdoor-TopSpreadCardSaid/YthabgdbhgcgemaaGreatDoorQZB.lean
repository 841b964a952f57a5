import Derived.Test.YthabgdbhgcgemaaGreatDoorQZA
import Derived.Test.YthabgdbhgcgemaaGreatDoorQTMap
import Derived.Test.YthabgdbhgcgemaaGreatDoorQTac
import Derived.Lib.AppendZeros
import Derived.DefersIn
import Derived.Recover
namespace Go.Proofs.YthabgdbhgcgemaaGreatDoor
set_option linter.unusedVariables false
set_option linter.unusedSimpArgs false
open Go Go.RowKit
open Enc (enc)
set_option maxRecDepth 20000
def ZoneV.c (z : ZoneV) : ZoneC := ⟨z.apex, z.sets.els.map Signed.c⟩
def cutsUp (z : ZoneV) (k : Nat) : List Bytes := ((z.sets.els.take k).filter fun s => decide (s.set.typ = 2) && !decide (s.set.name = z.apex)).map (·.set.name)
theorem cutsUp_next {z : ZoneV} {k : Nat} (hk : k < z.sets.els.length) : cutsUp z (k + 1) = cutsUp z k ++ if decide (z.sets.els[k].set.typ = 2) && !decide (z.sets.els[k].set.name = z.apex) then [z.sets.els[k].set.name] else [] := by
  unfold cutsUp
  rw [List.take_succ_eq_append_getElem hk, List.filter_append, List.map_append, List.filter_cons]
  split <;> rfl
theorem cutsUp_all (z : ZoneV) {k : Nat} (hk : z.sets.els.length ≤ k) : cutsUp z k = cutNames z.c := by
  unfold cutsUp cutNames ZoneV.c
  rw [List.take_of_length_le hk, List.filter_map, List.map_map]
  rfl
theorem cutsUp_len (z : ZoneV) (k : Nat) : (cutsUp z k).length ≤ k := by
  unfold cutsUp
  rw [List.length_map]
  refine Nat.le_trans (List.length_filter_le _ _) ?_
  rw [List.length_take]; omega
theorem cutsUp_good {z : ZoneV} {H : Hp} (hz : Enc.good H z) (k : Nat) : ∀ x ∈ cutsUp z k, LenOk x := fun x hx => by
  unfold cutsUp at hx
  obtain ⟨s, hs, rfl⟩ := List.mem_map.1 hx
  exact (hz.2.els s (List.mem_of_mem_take (List.mem_filter.1 hs).1)).1.1
set_option maxHeartbeats 2000000 in
theorem c_Cuts (z : ZoneV) (hf : z.sets.len ≤ 20000) {H : Hp} {w : World} (hs : Sat H w) (hz : Enc.good H z) : Calls Tryz.prog 180 #[.agg (enc z).toArray] w (RetF w H (fun p : Hp × Slc Bytes => p.2.els = cutNames z.c ∧ p.2.Good p.1) (fun p => p.2.v) (fun p => p.1)) := by
  have hg := hz.2
  have hlen := hg.len
  have hlim := hg.lim
  refine T.enter (vs := [.agg (enc z).toArray]) (H := H) Tryz.func180 rfl rfl rfl hs ?_
  repeat (any_goals (first | refine T.seq ?_ | refine T.region ?_ | refine TL.nil ?_ | refine N.next ?_ | refine T.block ?_ | (apply TL.x; rfl; rfl; (apply X.box (d := 1); rfl; rfl; rfl); intro b1 _) | (apply TL.val; rfl; rfl; (first | exact vpure | exact vread))))
  refine T.nilRow 9 1 ?_
  refine T.loop (G := Value × Nat) (fun g => [(1, .pointer (some ⟨b1, 0, none⟩)), (3, g.1), (4, intV g.2)]) (fun _ => H) (fun g => [.row g.1 9 1 (cutsUp z g.2).length (encs (cutsUp z g.2)), .blk b1 32 (enc z)]) (fun g => g.2 ≤ z.sets.len) (fun g => z.sets.len - g.2) (.slice none 0 0, 0) (Nat.zero_le _) (by (repeat (first | exact True.intro | refine ⟨rfl, ?_⟩ | refine Sub.int rfl (by omega) ?_))) rfl (by (repeat (first | exact List.Sublist.refl _ | exact List.nil_sublist _ | apply List.Sublist.cons_cons | apply List.Sublist.cons))) ?_
  rintro ⟨v, k⟩ hk
  simp only at hk ⊢
  by_cases hlt : k < z.sets.len
  · have hkl : k < z.sets.els.length := by omega
    have hup := cutsUp_next hkl
    have hcl := cutsUp_len z k
    obtain ⟨cs, hcs⟩ : ∃ cs, cutsUp z k = cs := ⟨_, rfl⟩
    rw [hcs] at hup hcl ⊢
    repeat (any_goals (first | refine T.seq ?_ | refine T.region ?_ | refine TL.nil ?_ | refine N.next ?_ | refine N.inBlock ?_ | refine N.exit_same ?_ | refine N.exit_then ?_ | refine T.ret ?_ | refine T.skip ?_ | refine T.exit ?_ | refine T.block ?_ | (apply T.cond_false; rfl) | (apply T.test; rfl; (exact isx); intro _; rotate_left; intro _; rotate_right) | (apply TL.skip; rfl; rfl; rfl) | (apply TL.x; rfl; rfl; (apply X.alloc (d := 5); rfl; rfl; rfl); intro b5 _) | (apply TL.x; rfl; rfl; (apply X.storeTo 0 (enc (z.sets.els[k]'hkl).set); (iterate 10 rfl)); intro _ _) | (apply TL.x; rfl; rfl; (apply X.buildSlice1 (d := 32); (iterate 8 rfl)); intro b32 _) | (apply TL.x; rfl; rfl; (apply X.append1 2; (iterate 9 rfl); exact List.Mem.head _; rfl; rfl; rfl; (refine Nat.le_trans (Nat.mul_le_mul_right _ (show _ ≤ 20001 by omega)) ?_; decide); omega); intro pa _) | (apply TL.val; rfl; rfl; (first | exact vpure | exact vread)) | (apply TL.guard; rfl; rfl; rfl; (exact isx); intro _; rotate_left; intro _; rotate_right)))
    all_goals (try (exfalso; omega))
    all_goals first
      | (have hc : (decide ((z.sets.els[k]'hkl).set.typ = 2) && !decide ((z.sets.els[k]'hkl).set.name = z.apex)) = true := by
           rw [decide_eq_true (show (z.sets.els[k]'hkl).set.typ = 2 by assumption), decide_eq_false (show ¬ (z.sets.els[k]'hkl).set.name = z.apex by assumption)]; rfl
         rw [if_pos hc] at hup
         refine N.round (.slice (some ⟨pa.1, 0, none⟩) (cs.length + 1) pa.2, k + 1) (by show k + 1 ≤ _; omega) (by show z.sets.len - (k + 1) < z.sets.len - k; omega) (by (repeat (first | exact True.intro | refine ⟨rfl, ?_⟩ | refine Sub.int rfl (by omega) ?_))) rfl ?_
         simp only [hup, List.length_append, List.length_cons, List.length_nil, Nat.zero_add, encs_snoc]
         exact List.Sublist.cons _ (List.Sublist.cons _ (List.Sublist.refl _)))
      | (have hc : ¬ (decide ((z.sets.els[k]'hkl).set.typ = 2) && !decide ((z.sets.els[k]'hkl).set.name = z.apex)) = true := by
           rw [Bool.and_eq_true]
           rintro ⟨f1, f2⟩
           first
             | exact absurd (of_decide_eq_true f1) (by assumption)
             | (rw [decide_eq_true (show (z.sets.els[k]'hkl).set.name = z.apex by assumption)] at f2; cases f2)
         rw [if_neg hc, List.append_nil] at hup
         refine N.round (v, k + 1) (by show k + 1 ≤ _; omega) (by show z.sets.len - (k + 1) < z.sets.len - k; omega) (by (repeat (first | exact True.intro | refine ⟨rfl, ?_⟩ | refine Sub.int rfl (by omega) ?_))) rfl ?_
         simp only [hup]
         first
           | exact List.Sublist.cons _ (List.Sublist.refl _)
           | exact List.Sublist.refl _)
  · have hke : k = z.sets.len := by omega
    subst hke
    have hal := cutsUp_all z (k := z.sets.len) (by omega)
    rw [hal]
    apply T.frzRow 0 (els := cutNames z.c); rfl; rfl; rfl
    · rw [← hal]; exact cutsUp_good hz _
    intro H3 sl e1 e2 e3 hle3
    subst e1
    repeat (any_goals (first | refine T.seq ?_ | refine T.region ?_ | refine TL.nil ?_ | refine N.next ?_ | refine N.exit_same ?_ | refine N.exit_then ?_ | refine T.ret ?_ | refine T.skip ?_ | refine T.exit ?_ | refine T.block ?_ | (apply T.test; rfl; (exact isx); intro _; rotate_left; intro _; rotate_right) | (apply TL.val; rfl; rfl; (first | exact vpure | exact vread))))
    all_goals (try (exfalso; omega))
    exact N.ret1 rfl (by (exact rvx)) fun w hst => ⟨(H3, sl), ⟨e2, e3⟩, rfl, hst.fresh⟩
def hiUp (C : List Bytes) (k : Nat) : List Bytes := (C.take k).foldl (hiStep inN) []
theorem hiUp_next {C : List Bytes} {k : Nat} (hk : k < C.length) : hiUp C (k + 1) = hiStep inN (hiUp C k) C[k] := by
  unfold hiUp
  rw [List.take_succ_eq_append_getElem hk, List.foldl_append]; rfl
theorem hiStep_len (out : List Bytes) (c : Bytes) : (hiStep inN out c).length ≤ out.length + 1 := by
  unfold hiStep
  split
  · split
    · omega
    · simp
  · simp
theorem hiUp_len (C : List Bytes) : ∀ k, (hiUp C k).length ≤ k
  | 0 => by simp [hiUp]
  | k + 1 => by
    rcases Nat.lt_or_ge k C.length with h | h
    · rw [hiUp_next h]
      have := hiStep_len (hiUp C k) C[k]
      have := hiUp_len C k
      omega
    · have e : hiUp C (k + 1) = hiUp C k := by unfold hiUp; rw [List.take_of_length_le (by omega), List.take_of_length_le h]
      rw [e]
      have := hiUp_len C k
      omega
theorem hiStep_mem {out : List Bytes} {c x : Bytes} (h : x ∈ hiStep inN out c) : x ∈ out ∨ x = c := by
  unfold hiStep at h
  split at h
  · split at h
    · exact .inl h
    · rcases List.mem_append.1 h with h | h
      · exact .inl h
      · exact .inr (List.mem_singleton.1 h)
  · exact .inr (List.mem_singleton.1 h)
theorem hi_mem : ∀ {C out : List Bytes} {x : Bytes}, x ∈ C.foldl (hiStep inN) out → x ∈ out ∨ x ∈ C
  | [], _, _, h => .inl h
  | c :: C, out, x, h => by
    rw [List.foldl_cons] at h
    rcases hi_mem h with h | h
    · rcases hiStep_mem h with h | h
      · exact .inl h
      · exact .inr (h ▸ List.mem_cons_self ..)
    · exact .inr (List.mem_cons_of_mem _ h)
theorem hiUp_mem {C : List Bytes} {k : Nat} {x : Bytes} (h : x ∈ hiUp C k) : x ∈ C := by
  rcases hi_mem h with h | h
  · cases h
  · exact List.mem_of_mem_take h
theorem hiUp_all {C : List Bytes} {k : Nat} (hk : C.length ≤ k) : hiUp C k = highC inN C := by unfold hiUp highC; rw [List.take_of_length_le hk]
def rowV : Option (Nat × Nat) → Nat → Value
  | none, _ => .slice none 0 0
  | some g, n => .slice (some ⟨g.1, 0, none⟩) n g.2
set_option maxHeartbeats 4000000 in
theorem c_Highest (z : ZoneV) (hf : z.sets.len ≤ 20000) (hn : ∀ c ∈ cutNames z.c, nameOK c = true) {H : Hp} {w : World} (hs : Sat H w) (hz : Enc.good H z) : Calls Tryz.prog 150 #[.agg (enc z).toArray] w (RetF w H (fun p : Hp × Slc Bytes => p.2.els = highC inN (cutNames z.c) ∧ p.2.Good p.1) (fun p => p.2.v) (fun p => p.1)) := by
  have hclen : (cutNames z.c).length ≤ z.sets.len := by
    rw [← cutsUp_all z (Nat.le_refl _), hz.2.len]; exact cutsUp_len z _
  refine T.enter (vs := [.agg (enc z).toArray]) (H := H) Tryz.func150 rfl rfl rfl hs ?_
  repeat (any_goals (first | refine T.seq ?_ | refine T.region ?_ | refine TL.nil ?_ | refine N.next ?_ | refine T.block ?_ | (apply TL.x; rfl; rfl; (apply X.box (d := 1); rfl; rfl; rfl); intro b1 _) | (apply TL.x; rfl; rfl; (apply X.callFE (f := 180) [.agg (enc z).toArray] Tryz.call180; rfl; rfl; rfl; exact (fun _ hs => c_Cuts z hf hs.sat hz)); intro p hp) | (apply TL.val; rfl; rfl; (first | exact vpure | exact vread))))
  obtain ⟨⟨hpe, hpg⟩, hple⟩ := hp
  have hplen := hpg.len
  have hplim := hpg.lim
  obtain ⟨C, hC⟩ : ∃ C, cutNames z.c = C := ⟨_, rfl⟩
  rw [hC] at hpe hn hclen ⊢
  rw [hpe] at hplen
  refine T.nilRow 9 1 ?_
  refine T.loop (G := Option (Nat × Nat) × Nat) (fun g => [(3, p.2.v), (4, rowV g.1 (hiUp C g.2).length), (5, intV g.2)]) (fun _ => p.1) (fun g => [.row (rowV g.1 (hiUp C g.2).length) 9 1 (hiUp C g.2).length (encs (hiUp C g.2))]) (fun g => g.2 ≤ C.length ∧ (g.1 = none → hiUp C g.2 = []) ∧ (g.1 ≠ none → hiUp C g.2 ≠ [])) (fun g => C.length - g.2) (none, 0) ⟨Nat.zero_le _, fun _ => rfl, fun h => absurd rfl h⟩ (by (repeat (first | exact True.intro | refine ⟨rfl, ?_⟩ | refine Sub.int rfl (by omega) ?_))) rfl (by (repeat (first | exact List.Sublist.refl _ | exact List.nil_sublist _ | apply List.Sublist.cons_cons | apply List.Sublist.cons))) ?_
  rintro ⟨o, k⟩ ⟨hk, ho1, ho2⟩
  simp only at hk ho1 ho2 ⊢
  by_cases hlt : k < C.length
  · have hkp : k < p.2.els.length := by rw [hpe]; exact hlt
    have hxe : p.2.els[k] = C[k] := by simp only [hpe]
    have hxc := hpg.cell (k := k) (j := 0) (by omega) (v := strV C[k]) (by rw [hxe]; rfl)
    have hxn : nameOK C[k] = true := hn _ (List.getElem_mem hlt)
    have hx60 := name_len60 hxn
    have hup := hiUp_next hlt
    have hul := hiUp_len C k
    obtain ⟨out, hout⟩ : ∃ out, hiUp C k = out := ⟨_, rfl⟩
    have hom : ∀ x ∈ out, nameOK x = true := fun x hx => hn x (hiUp_mem (hout ▸ hx))
    rw [hout] at hup hul ho1 ho2 ⊢
    cases o with
    | none =>
      have he := ho1 rfl
      subst he
      have hs1 : hiStep inN [] C[k] = [C[k]] := rfl
      rw [hs1] at hup
      repeat (any_goals (first | refine T.seq ?_ | refine T.region ?_ | (apply T.regionD wide; rfl) | refine TL.nil ?_ | refine N.next ?_ | refine N.inBlock ?_ | refine N.exit_same ?_ | refine N.exit_then ?_ | refine T.ret ?_ | refine T.skip ?_ | refine T.exit ?_ | refine T.block ?_ | (apply T.cond_true; rfl) | (apply T.test; rfl; (exact isx); intro _; rotate_left; intro _; rotate_right) | (apply GT.skip; rfl; rfl; rfl; decide +kernel) | (apply TL.val; rfl; rfl; (apply V.elem (j := k); (iterate 6 rfl); omega; exact hpg.at_ (by omega))) | (apply TL.val; rfl; rfl; (apply V.load_H; rfl; rfl; rfl; exact hxc)) | (apply TL.x; rfl; rfl; (apply X.buildSlice1 (d := 36); (iterate 8 rfl)); intro b36 _) | (apply TL.x; rfl; rfl; (apply X.append1 1; (iterate 9 rfl); exact List.Mem.head _; rfl; rfl; rfl; decide; decide); intro pa _) | (apply TL.val; rfl; rfl; (first | exact vpure | exact vread)) | (apply GT.pure; (iterate 4 rfl); (first | exact vpure); decide +kernel) | (apply GT.done; decide +kernel; apply N.ofQ)))
      all_goals (try (exfalso; omega))
      refine N.round (some (pa.1, pa.2), k + 1) ⟨by show k + 1 ≤ _; omega, (fun h => by cases h), fun _ => by rw [hup]; simp⟩ (by show C.length - (k + 1) < C.length - k; omega) (by simp only [hup]; (repeat (first | exact True.intro | refine ⟨rfl, ?_⟩ | refine Sub.int rfl (by omega) ?_))) rfl ?_
      simp only [hup]
      exact List.Sublist.cons _ (List.Sublist.refl _)
    | some g =>
      obtain ⟨gb, gc⟩ := g
      have hne := ho2 (by simp)
      have hl0 : 0 < out.length := List.length_pos_iff.2 hne
      obtain ⟨h, hh⟩ : ∃ h, out.getLast? = some h := by
        cases hl : out.getLast? with
        | none => rw [List.getLast?_eq_none_iff] at hl; exact absurd hl hne
        | some h => exact ⟨h, rfl⟩
      have hh60 := name_len60 (hom h (List.mem_of_getLast? hh))
      have hlast : (encs out)[0 + (out.length - 1) * 1]? = some (strV h) := by
        have := encs_get out (out.length - 1) 0 h (strV h) (by rw [← List.getLast?_eq_getElem?]; exact hh) rfl
        rw [show (out.length - 1) * Enc.size Bytes + 0 = 0 + (out.length - 1) * 1 by show (out.length - 1) * 1 + 0 = _; omega] at this
        exact this
      have hs1 : hiStep inN out C[k] = if inN C[k] h = true then out else out ++ [C[k]] := by unfold hiStep; rw [hh]
      rw [hs1] at hup
      obtain ⟨iv, hiv⟩ : ∃ iv, inN C[k] h = iv := ⟨_, rfl⟩
      rw [hiv] at hup
      simp only [rowV]
      repeat (any_goals (first | refine T.seq ?_ | refine T.region ?_ | (apply T.regionD wide; rfl) | refine TL.nil ?_ | refine N.next ?_ | refine N.inBlock ?_ | refine N.exit_same ?_ | refine N.exit_then ?_ | refine T.ret ?_ | refine T.skip ?_ | refine T.exit ?_ | refine T.block ?_ | (apply T.cond_true; rfl) | (apply T.test; rfl; (exact isx); intro _; rotate_left; intro _; rotate_right) | (apply GT.skip; rfl; rfl; rfl; decide +kernel) | (apply TL.val; rfl; rfl; (apply V.elem (j := k); (iterate 6 rfl); omega; exact hpg.at_ (by omega))) | (apply GT.pure; (iterate 4 rfl); (apply V.elem (j := k); (iterate 6 rfl); omega; exact hpg.at_ (by omega)); decide +kernel) | (apply GT.pure; (iterate 4 rfl); (apply V.elem (j := out.length - 1); (iterate 5 rfl); omega; omega; rfl); decide +kernel) | (apply TL.val; rfl; rfl; (apply V.load_H; rfl; rfl; rfl; exact hxc)) | (apply GT.read; (iterate 4 rfl); (apply V.load_H; rfl; rfl; rfl; exact hxc); decide +kernel) | (apply GT.read; (iterate 4 rfl); (apply V.load_own; rfl; rfl; rfl; exact List.Mem.head _; exact hlast); decide +kernel) | (apply GT.callE (f := 121) [strV C[k], strV h] Tryz.call121; (iterate 6 rfl); (exact fun _ hs => hiv ▸ c_In C[k] h _ _ hs.sat (by omega) (by omega)); decide +kernel) | (apply TL.x; rfl; rfl; (apply X.buildSlice1 (d := 36); (iterate 8 rfl)); intro b36 _) | (apply TL.x; rfl; rfl; (apply X.append1 1; (iterate 9 rfl); exact List.Mem.head _; rfl; rfl; rfl; (refine Nat.le_trans (Nat.mul_le_mul_right _ (show _ ≤ 20001 by omega)) ?_; decide); omega); intro pa _) | (apply TL.val; rfl; rfl; (first | exact vpure | exact vread)) | (apply GT.pure; (iterate 4 rfl); (first | exact vpure); decide +kernel) | (apply GT.done; decide +kernel; apply N.ofQ) | (apply GT.guard; (iterate 4 rfl); (exact isx); intro _; rotate_left; intro _; rotate_right)))
      all_goals (try (exfalso; omega))
      all_goals first
        | (have hf : iv = false := by assumption
           rw [if_neg (by rw [hf]; decide)] at hup
           refine N.round (some (pa.1, pa.2), k + 1) ⟨by show k + 1 ≤ _; omega, (fun h => by cases h), fun _ => by rw [hup]; simp⟩ (by show C.length - (k + 1) < C.length - k; omega) (by simp only [hup, List.length_append, List.length_cons, List.length_nil, Nat.zero_add]; (repeat (first | exact True.intro | refine ⟨rfl, ?_⟩ | refine Sub.int rfl (by omega) ?_))) rfl ?_
           simp only [hup, List.length_append, List.length_cons, List.length_nil, Nat.zero_add, encs_snoc]
           exact List.Sublist.cons _ (List.Sublist.refl _))
        | (have ht : iv = true := by assumption
           rw [if_pos ht] at hup
           refine N.round (some (gb, gc), k + 1) ⟨by show k + 1 ≤ _; omega, (fun h => by cases h), fun _ => by rw [hup]; exact hne⟩ (by show C.length - (k + 1) < C.length - k; omega) (by simp only [hup]; (repeat (first | exact True.intro | refine ⟨rfl, ?_⟩ | refine Sub.int rfl (by omega) ?_))) rfl ?_
           simp only [hup]
           exact List.Sublist.refl _)
  · have hke : k = C.length := by omega
    subst hke
    have hal := hiUp_all (C := C) (k := C.length) (Nat.le_refl _)
    rw [hal]
    apply T.frzRow 0 (els := highC inN C); rfl; rfl; rfl
    · intro x hx
      rw [← hal] at hx
      have := name_len60 (hn x (hiUp_mem hx))
      show x.length ≤ _
      omega
    intro H3 sl e1 e2 e3 hle3
    rw [← e1]
    repeat (any_goals (first | refine T.seq ?_ | refine T.region ?_ | (apply T.regionD wide; rfl) | refine TL.nil ?_ | refine N.next ?_ | refine N.exit_same ?_ | refine N.exit_then ?_ | refine T.ret ?_ | refine T.skip ?_ | refine T.exit ?_ | refine T.block ?_ | (apply T.cond_true; rfl) | (apply T.test; rfl; (exact isx); intro _; rotate_left; intro _; rotate_right) | (apply GT.skip; rfl; rfl; rfl; decide +kernel) | (apply TL.val; rfl; rfl; (first | exact vpure | exact vread)) | (apply GT.pure; (iterate 4 rfl); (first | exact vpure); decide +kernel) | (apply GT.read; (iterate 4 rfl); (first | exact vpure | exact vread); decide +kernel) | (apply GT.done; decide +kernel; apply N.ofQ) | (apply TL.x; rfl; rfl; (first | exact xgrow | exact xput); intro _ _) | (apply GT.guard; (iterate 4 rfl); (exact isx); intro _; rotate_left; intro _; rotate_right) | (apply GT.fork1; decide +kernel)))
    all_goals (try (exfalso; omega))
    exact N.ret1 rfl (by (exact rvx)) fun w hst => ⟨(H3, sl), ⟨e2, e3⟩, rfl, hst.fresh⟩
end Go.Proofs.YthabgdbhgcgemaaGreatDoor
