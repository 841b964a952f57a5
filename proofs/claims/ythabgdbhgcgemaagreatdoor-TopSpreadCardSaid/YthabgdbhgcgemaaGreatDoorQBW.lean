import Derived.Test.YthabgdbhgcgemaaGreatDoorQBV
import Derived.Test.YthabgdbhgcgemaaGreatDoorQBT
import Derived.Test.YthabgdbhgcgemaaGreatDoorQDataH
namespace Go.Proofs.YthabgdbhgcgemaaGreatDoor
set_option linter.unusedVariables false
set_option linter.unusedSimpArgs false
open Go Go.RowKit
open Enc (enc)
set_option maxRecDepth 20000
structure GrpI where
  key : Int
  b : Nat
  c : Nat
  els : List Int
def GrpI.v (g : GrpI) : Value := .slice (some ⟨g.b, 0, none⟩) g.els.length g.c
def GrpI.loc (g : GrpI) : Loc := .row g.v 3 1 g.els.length (encs g.els)
def iMap (l : List GrpI) : List (Int × Value) := l.map fun g => (g.key, g.v)
def iRows (l : List GrpI) : List Loc := l.map GrpI.loc
theorem iMap_snoc (l : List GrpI) (g : GrpI) : iMap (l ++ [g]) = iMap l ++ [(g.key, g.v)] := by unfold iMap; rw [List.map_append]; rfl
theorem iRows_snoc (l : List GrpI) (g : GrpI) : iRows (l ++ [g]) = iRows l ++ [g.loc] := by unfold iRows; rw [List.map_append]; rfl
theorem iRows_len (l : List GrpI) : (iRows l).length = l.length := by unfold iRows; rw [List.length_map]
theorem iRows_at {l : List GrpI} {j : Nat} {g : GrpI} (h : l[j]? = some g) : (iRows l)[j]? = some g.loc := by unfold iRows; rw [List.getElem?_map, h]; rfl
theorem iMap_set (l : List GrpI) (j : Nat) (g : GrpI) : iMap (l.set j g) = (iMap l).set j (g.key, g.v) := by unfold iMap; rw [List.map_set]
theorem iRows_set (l : List GrpI) (j : Nat) (g : GrpI) : iRows (l.set j g) = (iRows l).set j g.loc := by unfold iRows; rw [List.map_set]
theorem set_endI {α : Type} (A : List α) (x y : α) : (A ++ [x]).set A.length y = A ++ [y] := by
  induction A with
  | nil => rfl
  | cons z A ih => show z :: (A ++ [x]).set A.length y = _; rw [ih]; rfl
theorem get_endI {α : Type} (A : List α) (x : α) : (A ++ [x])[A.length]? = some x := by
  rw [List.getElem?_append_right (Nat.le_refl _), Nat.sub_self]; rfl
theorem iFind {l : List GrpI} {a : Int} : (aFind a (iMap l) 0 = none) ∨ ∃ j g, aFind a (iMap l) 0 = some (j, g.v) ∧ l[j]? = some g ∧ g.key = a := by
  cases h : aFind a (iMap l) 0 with
  | none => exact .inl rfl
  | some p =>
    obtain ⟨j, v⟩ := p
    refine .inr ?_
    have h2 := (aFind_some h).2
    rw [Nat.sub_zero] at h2
    unfold iMap at h2
    rw [List.getElem?_map] at h2
    cases hg : l[j]? with
    | none => rw [hg] at h2; cases h2
    | some g =>
      rw [hg] at h2
      simp only [Option.map_some, Option.some.injEq, Prod.mk.injEq] at h2
      exact ⟨j, g, by rw [h2.2], hg, h2.1⟩
theorem iput_new {a : Int} {l : List GrpI} (h : aFind a (iMap l) 0 = none) (v : Value) : aGet a (iMap l) = none ∧ aPut a v (iMap l) = iMap l ++ [(a, v)] := by
  unfold aGet aPut
  rw [h]; exact ⟨rfl, rfl⟩
theorem iput_old {a : Int} {l : List GrpI} {j : Nat} {u : Value} (h : aFind a (iMap l) 0 = some (j, u)) (v : Value) : aGet a (iMap l) = some u ∧ aPut a v (iMap l) = (iMap l).set j (a, v) := by
  unfold aGet aPut
  rw [h]; exact ⟨rfl, rfl⟩
def getT (l : List GrpI) (h : Int) : List Int := match l.find? fun g => decide (g.key = h) with
  | some g => g.els
  | none => []
structure TimesOK (l : List GrpI) (f : Int → List Int) : Prop where
  nodup : (l.map (·.key)).Nodup
  all : ∀ h, getT l h = f h
def updT (f : Int → List Int) (a x : Int) : Int → List Int := fun h => if h = a then f h ++ [x] else f h
theorem find_none {a : Int} {l : List GrpI} (h : aFind a (iMap l) 0 = none) : ∀ g ∈ l, g.key ≠ a := fun g hg => by
  have := aFind_none.1 h (g.key, g.v) (List.mem_map.2 ⟨g, hg, rfl⟩)
  exact this
theorem getT_of {l : List GrpI} (hn : (l.map (·.key)).Nodup) {g : GrpI} (hg : g ∈ l) : getT l g.key = g.els := by
  unfold getT
  cases hf : l.find? (fun x => decide (x.key = g.key)) with
  | none =>
    have := List.find?_eq_none.1 hf g hg
    simp at this
  | some y =>
    have h1 := List.find?_some hf
    rw [decide_eq_true_iff] at h1
    have h2 := List.mem_of_find?_eq_some hf
    obtain ⟨i, hi, rfl⟩ := List.mem_iff_getElem.1 h2
    obtain ⟨j, hj, rfl⟩ := List.mem_iff_getElem.1 hg
    have hp := List.pairwise_iff_getElem.1 (List.pairwise_map.1 hn)
    rcases Nat.lt_trichotomy i j with h | h | h
    · exact absurd h1 (hp i j hi hj h)
    · subst h; rfl
    · exact absurd h1.symm (hp j i hj hi h)
theorem getT_none {l : List GrpI} {a : Int} (h : ∀ g ∈ l, g.key ≠ a) : getT l a = [] := by
  unfold getT
  have : l.find? (fun x => decide (x.key = a)) = none := List.find?_eq_none.2 fun g hg => by simpa using h g hg
  rw [this]
theorem TimesOK.new {l : List GrpI} {f : Int → List Int} (h : TimesOK l f) {a x : Int} {b c : Nat} (ha : ∀ g ∈ l, g.key ≠ a) : TimesOK (l ++ [⟨a, b, c, [x]⟩]) (updT f a x) := by
  have hn : ((l ++ [(⟨a, b, c, [x]⟩ : GrpI)]).map (·.key)).Nodup := by
    rw [List.map_append, List.nodup_append]
    refine ⟨h.nodup, by simp, fun y hy z hz => ?_⟩
    obtain ⟨g, hg, rfl⟩ := List.mem_map.1 hy
    simp only [List.map_cons, List.map_nil, List.mem_singleton] at hz
    rw [hz]; exact ha g hg
  refine ⟨hn, fun k => ?_⟩
  unfold updT
  by_cases e : k = a
  · subst e
    rw [if_pos rfl, ← h.all, getT_none ha]
    exact getT_of hn (g := ⟨k, b, c, [x]⟩) (List.mem_append_right _ (List.mem_singleton.2 rfl))
  · rw [if_neg e, ← h.all]
    unfold getT
    rw [List.find?_append]
    have : [(⟨a, b, c, [x]⟩ : GrpI)].find? (fun g => decide (g.key = k)) = none := by simp [Ne.symm e]
    rw [this, Option.or_none]
theorem TimesOK.add {l : List GrpI} {f : Int → List Int} (h : TimesOK l f) {a x : Int} {j b c : Nat} {g : GrpI} (hj : l[j]? = some g) (hg : g.key = a) : TimesOK (l.set j ⟨a, b, c, g.els ++ [x]⟩) (updT f a x) := by
  obtain ⟨hjl, hje⟩ := List.getElem?_eq_some_iff.1 hj
  have hkeys : (l.set j (⟨a, b, c, g.els ++ [x]⟩ : GrpI)).map (·.key) = l.map (·.key) := by
    rw [List.map_set]
    refine List.ext_getElem? fun i => ?_
    rw [List.getElem?_set]
    by_cases e : j = i
    · subst e; rw [if_pos rfl, if_pos (by rw [List.length_map]; exact hjl), List.getElem?_map, hj, ← hg]; rfl
    · rw [if_neg e]
  have hn : ((l.set j (⟨a, b, c, g.els ++ [x]⟩ : GrpI)).map (·.key)).Nodup := by rw [hkeys]; exact h.nodup
  have hgm : g ∈ l := List.mem_of_getElem? hj
  refine ⟨hn, fun k => ?_⟩
  unfold updT
  by_cases e : k = a
  · subst e
    have h1 := getT_of h.nodup hgm
    rw [hg] at h1
    rw [if_pos rfl, ← h.all, h1]
    exact getT_of hn (g := ⟨k, b, c, g.els ++ [x]⟩) (List.mem_of_getElem? (by rw [List.getElem?_set_self hjl]))
  · rw [if_neg e, ← h.all]
    cases hf : l.find? (fun y => decide (y.key = k)) with
    | none =>
      have h1 : ∀ y ∈ l, y.key ≠ k := fun y hy => by simpa using List.find?_eq_none.1 hf y hy
      rw [getT_none h1]
      refine getT_none fun y hy => ?_
      rcases List.mem_or_eq_of_mem_set hy with hy | hy
      · exact h1 y hy
      · rw [hy]; exact Ne.symm e
    | some y =>
      have h1 := List.find?_some hf
      rw [decide_eq_true_iff] at h1
      have h2 := List.mem_of_find?_eq_some hf
      have h3 := getT_of h.nodup h2
      rw [h1] at h3
      rw [h3]
      obtain ⟨i, hi, rfl⟩ := List.mem_iff_getElem.1 h2
      have hij : j ≠ i := fun e2 => by subst e2; rw [hje] at h1; exact e (h1.symm.trans hg)
      have h4 : (l.set j (⟨a, b, c, g.els ++ [x]⟩ : GrpI))[i]? = some l[i] := by rw [List.getElem?_set_ne hij]; exact List.getElem?_eq_getElem hi
      have h5 := getT_of hn (List.mem_of_getElem? h4)
      rw [h1] at h5
      exact h5
theorem TimesOK.congr {l : List GrpI} {f g : Int → List Int} (h : TimesOK l f) (e : ∀ k, f k = g k) : TimesOK l g := ⟨h.nodup, fun k => (h.all k).trans (e k)⟩
def restI (l : List GrpI) (k : Nat) : List GrpI := l.filter fun g => decide ((k : Int) ≤ g.key)
theorem rest_none {l : List GrpI} {k : Nat} (h : ∀ g ∈ l, g.key ≠ (k : Int)) : restI l (k + 1) = restI l k := by
  unfold restI
  refine List.filter_congr fun g hg => decide_eq_decide.2 ?_
  have := h g hg
  omega
theorem rest_perm : ∀ {l : List GrpI} {k : Nat} {g : GrpI}, (l.map (·.key)).Nodup → g ∈ l → g.key = (k : Int) → (restI l k).Perm (g :: restI l (k + 1))
  | [], _, _, _, hg, _ => by cases hg
  | x :: l, k, g, hn, hg, hk => by
    rw [List.map_cons, List.nodup_cons] at hn
    obtain ⟨h1, h2⟩ := hn
    rcases List.mem_cons.1 hg with rfl | hg
    · have hno : ∀ y ∈ l, y.key ≠ (k : Int) := fun y hy e => h1 (List.mem_map.2 ⟨y, hy, e.trans hk.symm⟩)
      have hr := rest_none hno
      unfold restI at hr ⊢
      rw [List.filter_cons_of_pos (by simp [hk]), List.filter_cons_of_neg (by rw [decide_eq_true_iff]; omega), hr]
    · have hne : x.key ≠ (k : Int) := fun e => h1 (List.mem_map.2 ⟨g, hg, hk.trans e.symm⟩)
      have ih := rest_perm h2 hg hk
      unfold restI at ih ⊢
      by_cases hx : (k : Int) ≤ x.key
      · rw [List.filter_cons_of_pos (by simpa using hx), List.filter_cons_of_pos (by rw [decide_eq_true_iff]; omega)]
        exact (ih.cons x).trans (.swap _ _ _)
      · rw [List.filter_cons_of_neg (by simpa using hx), List.filter_cons_of_neg (by rw [decide_eq_true_iff]; omega)]
        exact ih
def copyC (c : CopyV) : Int × Int × Int × ZoneC := (c.host, c.frm, c.til, c.zone.c)
def zcOf (l : List VersionV) (v : Nat) : ZoneC := match l[v]? with
  | some x => x.zone.c
  | none => ⟨[], []⟩
def convC (l : List VersionV) (s : Int × Int × Int × Nat) : Int × Int × Int × ZoneC := (s.1, s.2.1, s.2.2.1, zcOf l s.2.2.2)
structure SpreadOK (l : List VersionV) (primary : Int) (polls : List PollV) (fin : Int) (c : Slc CopyV) (e : Int) : Prop where
  bad : e ≠ 0 → c.len = 0
  good : e = 0 → (0 ≤ primary ∧ primary < 64) ∧ c.els.map copyC = (allServes (atsOf l) primary polls fin 64).map (convC l)
  ok : 0 ≤ primary ∧ primary < 64 → pollsOK polls fin → (allServes (atsOf l) primary polls fin 64).length ≤ 4000 → e = 0
instance : Enc (Slc StrV) where
  size := 1
  enc s := [s.v]
  good H s := s.Good H
  len _ := rfl
  mono hle h := h.mono hle
  one _ := rfl
  pos := by decide
theorem all_next (ats : List Int) (primary : Int) (polls : List PollV) (fin : Int) (k : Nat) : allServes ats primary polls fin (k + 1) = allServes ats primary polls fin k ++ tagH k (servesH ats primary polls fin k) := by
  unfold allServes
  rw [List.range_succ, List.flatMap_append]
  congr 1
  simp
theorem all_len (ats : List Int) (primary : Int) (polls : List PollV) (fin : Int) (k : Nat) : (allServes ats primary polls fin (k + 1)).length = (allServes ats primary polls fin k).length + (servesH ats primary polls fin k).length := by
  rw [all_next, List.length_append]
  congr 1
  unfold tagH
  rw [List.length_map]
theorem times_len (ats : List Int) (primary : Int) (polls : List PollV) (h : Int) : (timesH ats primary polls h).length ≤ ats.length + polls.length := by
  unfold timesH
  split
  · omega
  · rw [List.length_map]
    have := List.length_filter_le (fun p : PollV => decide (p.host = h) && !p.lost) polls
    omega
theorem serves_len (ats : List Int) (primary : Int) (polls : List PollV) (fin h : Int) : (servesH ats primary polls fin h).length ≤ ats.length + polls.length := by
  unfold servesH
  rw [untilJ_len]
  refine Nat.le_trans (joinJ_len _) (Nat.le_trans (bring_len _ _) ?_)
  rw [(sortI_perm _).length_eq]
  exact times_len ats primary polls h
end Go.Proofs.YthabgdbhgcgemaaGreatDoor
