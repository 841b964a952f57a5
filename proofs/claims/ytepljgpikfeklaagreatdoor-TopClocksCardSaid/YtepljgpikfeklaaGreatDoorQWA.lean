import Derived.Test.YtepljgpikfeklaaGreatDoorQData
import Derived.Test.YtepljgpikfeklaaGreatDoorQOrd
import Derived.Test.YtepljgpikfeklaaGreatDoorQEngR
namespace Go.Proofs.YtepljgpikfeklaaGreatDoor
set_option linter.unusedVariables false
set_option linter.unusedSimpArgs false
open Go
structure EntryC where
  signed : SignedC
  zone : Bytes
  til : Int
  deriving DecidableEq
def starN (z : Bytes) : Bool := decide ((parts z).head? = some [42])
def inZone (s z : Bytes) : Bool := nameOK s && nameOK z && !starN z && inN s z
def sigForm (apex : Bytes) (h g : Sig) : Bool := decide (g.zone = apex) && decide (1 ≤ g.key ∧ g.key ≤ 1000000) && decide (1 ≤ g.alg ∧ g.alg ≤ 3) && decide (g.frm = h.frm) && decide (g.til = h.til) && decide (0 ≤ g.frm ∧ g.frm ≤ g.til ∧ g.til ≤ 20000000)
def keyLt (a b : Sig) : Bool := decide (a.key < b.key)
def sigsForm (l : List Sig) (apex : Bytes) : Bool := decide (l.length ≤ 6) && l.all (fun g => sigForm apex (l.headD g) g) && chain keyLt l
def keyC (e : EntryC) : Bytes × Int × Bytes := (e.signed.set.name, e.signed.set.typ, e.zone)
def alikeC (a b : EntryC) : Bool := decide (keyC a = keyC b)
def denial (e : EntryC) : Bool := decide (e.signed.set.data = [])
def entryOK (e : EntryC) : Bool := inZone e.signed.set.name e.zone && decide (1 ≤ e.til ∧ e.til ≤ 20100001) &&
  (if denial e then decide (1 ≤ e.signed.set.typ ∧ e.signed.set.typ ≤ 8) && decide (0 ≤ e.signed.set.life ∧ e.signed.set.life ≤ 100000) && decide (e.signed.sigs = []) else setOK e.signed.set && sigsForm e.signed.sigs e.zone)
def cacheOK (l : List EntryC) : Bool := decide (l.length ≤ 400) && l.all entryOK && decide ((l.map keyC).Nodup)
def isT (t : Int) : Bool := decide (0 ≤ t ∧ t ≤ 20000000)
def freshC (l : List EntryC) (now : Int) : List EntryC := l.filter fun e => decide (now < e.til)
def learnC (l : List EntryC) (e : EntryC) (now : Int) : List EntryC × Int :=
  if e.til ≤ now then ((freshC l now).filter fun o => !alikeC o e, 0) else
  if (freshC l now).any (fun o => alikeC o e) then ((freshC l now).map fun o => if alikeC o e then e else o, 0) else
  if 400 ≤ (freshC l now).length then ([], 41) else (freshC l now ++ [e], 0)
def minI (a b : Int) : Int := if b < a then b else a
def maxI (a b : Int) : Int := if b > a then b else a
def untilC (s : SignedC) (now : Int) : Int :=
  match s.sigs with
  | [] => now + maxI s.set.life 1
  | g :: _ => minI (now + maxI s.set.life 1) (g.til + 1)
def putC (l : List EntryC) (s : SignedC) (zone : Bytes) (now : Int) : List EntryC × Int :=
  if !(cacheOK l && setOK s.set && inZone s.set.name zone && isT now) then ([], 1) else
  if !sigsForm s.sigs zone then ([], 30) else learnC l ⟨s, zone, untilC s now⟩ now
def entryNil : EntryC := ⟨⟨⟨[], 0, 0, []⟩, []⟩, [], 0⟩
def asks (q : Question) (now : Int) (e : EntryC) : Bool := decide (now < e.til) && decide (e.signed.set.name = q.name) && decide (e.signed.set.typ = q.typ)
def getC (l : List EntryC) (q : Question) (now : Int) : EntryC × Bool × Int :=
  if !(cacheOK l && questionOK q && isT now) then (entryNil, false, 1) else
  match l.find? (asks q now) with
  | some e => (e, true, 0)
  | none => (entryNil, false, 0)
def knownC (l : List EntryC) (now : Int) : List SignedC × Int :=
  if !(cacheOK l && isT now) then ([], 1) else (((freshC l now).filter fun e => !denial e).map (·.signed), 0)
end Go.Proofs.YtepljgpikfeklaaGreatDoor
namespace Go.Proofs.YtepljgpikfeklaaGreatDoor
set_option linter.unusedVariables false
set_option linter.unusedSimpArgs false
open Go
theorem alike_iff {a b : EntryC} : alikeC a b = true ↔ keyC a = keyC b := by unfold alikeC; rw [decide_eq_true_iff]
theorem cacheOK_iff (l : List EntryC) : cacheOK l = true ↔ l.length ≤ 400 ∧ (∀ e ∈ l, entryOK e = true) ∧ (l.map keyC).Nodup := by
  unfold cacheOK
  simp only [Bool.and_eq_true, decide_eq_true_eq, List.all_eq_true, and_assoc]
theorem cache_sub {l m : List EntryC} (h : cacheOK l = true) (hs : m.Sublist l) : cacheOK m = true := by
  rw [cacheOK_iff] at *
  exact ⟨Nat.le_trans hs.length_le h.1, fun e he => h.2.1 e (hs.subset he), (hs.map keyC).nodup h.2.2⟩
theorem fresh_sub (l : List EntryC) (now : Int) : (freshC l now).Sublist l := List.filter_sublist
end Go.Proofs.YtepljgpikfeklaaGreatDoor
namespace Go.Proofs.YtepljgpikfeklaaGreatDoor
set_option linter.unusedVariables false
set_option linter.unusedSimpArgs false
open Go
theorem setOK_life {s : SetC} (h : setOK s = true) : (0 ≤ s.life ∧ s.life ≤ 100000) ∧ 1 ≤ s.data.length := by
  unfold setOK at h
  simp only [Bool.and_eq_true, decide_eq_true_eq] at h
  exact ⟨h.1.1.1.1.1.2, h.1.1.1.1.2.1⟩
theorem maxI_pos (a : Int) : 1 ≤ maxI a 1 ∧ a ≤ maxI a 1 := by unfold maxI; split <;> omega
theorem find_fresh {l : List EntryC} {q : Question} {now at_ : Int} (h : now ≤ at_) : (freshC l now).find? (asks q at_) = l.find? (asks q at_) := by
  unfold freshC
  rw [List.find?_filter]
  congr 1
  funext x
  unfold asks
  by_cases h1 : at_ < x.til
  · simp [h1, show now < x.til by omega]
  · simp [h1]
end Go.Proofs.YtepljgpikfeklaaGreatDoor
namespace Go.Proofs.YtepljgpikfeklaaGreatDoor
set_option linter.unusedVariables false
set_option linter.unusedSimpArgs false
open Go
end Go.Proofs.YtepljgpikfeklaaGreatDoor
namespace Go.Proofs.YtepljgpikfeklaaGreatDoor
set_option linter.unusedVariables false
set_option linter.unusedSimpArgs false
open Go
def leN (a b : Bytes) : Bool := leL (labs a) (labs b)
def ordN (a b : Bytes) : Int := lexL (labs a) (labs b)
theorem labs_rev (l : Bytes) : parts l = (labs l).reverse := by
  unfold parts labs
  split
  · rfl
  · rw [List.reverse_reverse]
theorem inN_un (s z : Bytes) : inN s z = unL (labs s) (labs z) := by
  unfold inN unL
  rw [labs_rev, labs_rev]
  exact decide_eq_decide.2 List.reverse_suffix
theorem parts_inj {a b : Bytes} (ha : nameOK a = true) (hb : nameOK b = true) (h : parts a = parts b) : a = b := by
  unfold parts at h
  split at h
  · rename_i e
    split at h
    · rename_i e'; rw [e, e']
    · exact absurd h.symm (splitDots_ne b)
  · split at h
    · exact absurd h (splitDots_ne a)
    · exact split_inj h
theorem labs_inj {a b : Bytes} (ha : nameOK a = true) (hb : nameOK b = true) (h : labs a = labs b) : a = b :=
  parts_inj ha hb (by rw [labs_rev, labs_rev, h])
theorem ordN_zero {a b : Bytes} (ha : nameOK a = true) (hb : nameOK b = true) : ordN a b = 0 ↔ a = b :=
  ⟨fun h => labs_inj ha hb (lexL_zero h), fun h => by subst h; exact lexL_self _⟩
theorem leN_iff {a b : Bytes} : leN a b = true ↔ ordN a b ≤ 0 := by unfold leN leL ordN; rw [decide_eq_true_iff]
theorem leN_anti {a b : Bytes} (ha : nameOK a = true) (hb : nameOK b = true) (h : leN a b = true) (k : leN b a = true) : a = b := labs_inj ha hb (leL_anti h k)
theorem ordNames : Ord leN inN where
  refl a := leL_refl _
  total a b := leL_total _ _
  trans h k := leL_trans h k
  unLe h := unL_le (by rw [← inN_un]; exact h)
  unRefl a := in_refl a
  between h k j := by rw [inN_un] at h ⊢; exact unL_between h k j
theorem name_ne {s : Bytes} (h : nameOK s = true) : s ≠ [] := fun e => by
  have := name_pos h
  rw [e] at this; simp at this
theorem name_len60 {l : Bytes} (h : nameOK l = true) : l.length ≤ 60 := by
  rcases (nameOK_iff l).1 h with rfl | ⟨h1, _⟩
  · decide
  · exact h1
structure ZoneC where
  apex : Bytes
  sets : List SignedC
deriving DecidableEq
def ordSet (a b : SetC) : Int := if ordN a.name b.name = 0 then cmpI a.typ b.typ else ordN a.name b.name
def cmpPl (a b : SetC) : Int := if a.name = b.name then cmpI a.typ b.typ else ordN a.name b.name
theorem cmpPl_eq {a b : SetC} (ha : nameOK a.name = true) (hb : nameOK b.name = true) : cmpPl a b = ordSet a b := by
  unfold cmpPl ordSet
  by_cases h : a.name = b.name
  · rw [if_pos h, if_pos ((ordN_zero ha hb).2 h)]
  · rw [if_neg h, if_neg (fun e => h ((ordN_zero ha hb).1 e))]
def placedOK (t : Int) (atApex : Bool) : Bool := if atApex = true then decide (t ≠ 3 ∧ t ≠ 6) else decide (t ≠ 4 ∧ t ≠ 7)
def cutNames (z : ZoneC) : List Bytes := (z.sets.filter fun s => decide (s.set.typ = 2) && !decide (s.set.name = z.apex)).map (·.set.name)
def namesZ (z : ZoneC) : List Bytes := z.sets.map (·.set.name)
def isCut (z : ZoneC) (n : Bytes) : Bool := decide (n ∈ cutNames z)
def behZ (z : ZoneC) : List (Option Bytes) := layO inN (isCut z) none (namesZ z)
def behRZ (z : ZoneC) : List (Option Bytes) := behO leN inN (highC inN (cutNames z)) 0 (namesZ z)
structure OneZ (z : ZoneC) : Prop where
  apexOK : nameOK z.apex = true
  tame : starN z.apex = false
  few : z.sets.length ≤ 20000
  each : ∀ i (h : i < z.sets.length), setOK z.sets[i].set = true ∧ inN z.sets[i].set.name z.apex = true ∧ ∀ h0 : 0 < i, ordSet (z.sets[i - 1]'(by omega)).set z.sets[i].set < 0
structure TwoZ (z : ZoneC) : Prop where
  start : ∃ s ∈ z.sets, s.set.name = z.apex ∧ s.set.typ = 4
  server : ∃ s ∈ z.sets, s.set.name = z.apex ∧ s.set.typ = 2
  placed : ∀ s ∈ z.sets, placedOK s.set.typ (decide (s.set.name = z.apex)) = true
def ThreeZ (z : ZoneC) : Prop := ∀ i (h : i + 1 < z.sets.length), z.sets[i].set.name = z.sets[i + 1].set.name → z.sets[i + 1].set.typ ≠ 3 ∧ (z.sets[i].set.typ = 3 → z.sets[i + 1].set.typ = 8)
def fourOK (b : Option Bytes) (s : SetC) : Prop := (∀ c, b = some c → (s.typ = 1 ∨ s.name = c)) ∧ (b = some s.name → s.typ = 1 ∨ s.typ = 2 ∨ s.typ = 6 ∨ s.typ = 8) ∧ (s.typ = 6 → b = some s.name)
def FourZ (z : ZoneC) (beh : List (Option Bytes)) : Prop := ∀ i (h : i < z.sets.length), fourOK (beh[i]?.getD none) z.sets[i].set
def fiveOK (apex : Bytes) (b : Option Bytes) (s : SignedC) : Prop := sigsForm s.sigs apex = true ∧ (b ≠ none → (s.set.typ = 2 ∨ s.set.typ = 1) → s.sigs = [])
def FiveZ (z : ZoneC) (beh : List (Option Bytes)) : Prop := ∀ i (h : i < z.sets.length), fiveOK z.apex (beh[i]?.getD none) z.sets[i]
structure ZonedR (z : ZoneC) : Prop where
  one : OneZ z
  two : TwoZ z
  three : ThreeZ z
  four : FourZ z (behRZ z)
  five : FiveZ z (behRZ z)
theorem OneZ.nameAt {z : ZoneC} (h : OneZ z) {i : Nat} (hi : i < z.sets.length) : nameOK z.sets[i].set.name = true := by
  have := (h.each i hi).1
  unfold setOK at this
  simp only [Bool.and_eq_true] at this
  exact this.1.1.1.1.1.1.1
theorem OneZ.nameMem {z : ZoneC} (h : OneZ z) {s : SignedC} (hs : s ∈ z.sets) : nameOK s.set.name = true := by
  obtain ⟨i, hi, rfl⟩ := List.mem_iff_getElem.1 hs
  exact h.nameAt hi
theorem ordSet_le {a b : SetC} (h : ordSet a b < 0) : leN a.name b.name = true := by
  unfold ordSet at h
  rw [leN_iff]
  split at h <;> omega
theorem pairwise_of_steps {α : Type} {r : α → α → Prop} (htr : ∀ {a b c}, r a b → r b c → r a c) : ∀ {l : List α}, (∀ i (h : i + 1 < l.length), r l[i] l[i + 1]) → l.Pairwise r
  | [], _ => List.Pairwise.nil
  | [_], _ => List.pairwise_singleton ..
  | a :: b :: l, h => by
    have ih := pairwise_of_steps (r := r) htr (l := b :: l) fun i hi => h (i + 1) (Nat.succ_lt_succ hi)
    have hab : r a b := h 0 (by simp)
    refine List.pairwise_cons.2 ⟨fun x hx => ?_, ih⟩
    rcases List.mem_cons.1 hx with rfl | hx
    · exact hab
    · exact htr hab ((List.pairwise_cons.1 ih).1 x hx)
theorem OneZ.sorted {z : ZoneC} (h : OneZ z) : (namesZ z).Pairwise fun a b => leN a b = true := by
  refine pairwise_of_steps (r := fun a b => leN a b = true) (fun h k => ordNames.trans h k) fun i hi => ?_
  unfold namesZ at hi ⊢
  rw [List.length_map] at hi
  rw [List.getElem_map, List.getElem_map]
  have := (h.each (i + 1) hi).2.2 (Nat.succ_pos i)
  exact ordSet_le this
theorem cutNames_mem {z : ZoneC} {n : Bytes} : n ∈ cutNames z ↔ ∃ s ∈ z.sets, s.set.typ = 2 ∧ s.set.name ≠ z.apex ∧ s.set.name = n := by
  unfold cutNames
  simp only [List.mem_map, List.mem_filter, Bool.and_eq_true, decide_eq_true_eq, Bool.not_eq_true', decide_eq_false_iff_not]
  constructor
  · rintro ⟨s, ⟨h1, h2, h3⟩, h4⟩; exact ⟨s, h1, h2, h3, h4⟩
  · rintro ⟨s, h1, h2, h3, h4⟩; exact ⟨s, ⟨h1, h2, h3⟩, h4⟩
theorem beh_eq {z : ZoneC} (h : OneZ z) : behRZ z = behZ z := by
  have hN := h.sorted
  have hC : (cutNames z).Pairwise fun a b => leN a b = true := by
    have hsub : List.Sublist (cutNames z) (namesZ z) := by
      unfold cutNames namesZ
      exact (List.filter_sublist (l := z.sets)).map _
    exact hN.sublist hsub
  have hok : ∀ n ∈ namesZ z, nameOK n = true := fun n hn => by
    unfold namesZ at hn
    obtain ⟨s, hs, rfl⟩ := List.mem_map.1 hn
    exact h.nameMem hs
  refine beh_lay0 ordNames (fun a ha b hb => leN_anti (hok a ha) (hok b hb)) (highC_ok ordNames hC (fun c hc => ⟨?_, ?_⟩) (fun c _ hc => ?_)) hN
  · obtain ⟨s, h1, _, _, h4⟩ := cutNames_mem.1 hc
    unfold namesZ
    exact List.mem_map.2 ⟨s, h1, h4⟩
  · exact decide_eq_true hc
  · exact of_decide_eq_true hc
end Go.Proofs.YtepljgpikfeklaaGreatDoor
namespace Go.Proofs.YtepljgpikfeklaaGreatDoor
set_option linter.unusedVariables false
set_option linter.unusedSimpArgs false
open Go
open Enc (enc)
instance : Enc Int where
  size := 1
  enc i := [intV i]
  good _ i := I64 i
  len _ := rfl
  mono _ h := h
  one _ := rfl
  pos := by decide
end Go.Proofs.YtepljgpikfeklaaGreatDoor
namespace Go.Proofs.YtepljgpikfeklaaGreatDoor
set_option linter.unusedVariables false
set_option linter.unusedSimpArgs false
open Go Go.RowKit
set_option maxRecDepth 20000
theorem c_rwithin (x lo hi : Int) (H : Hp) (w : World) (hs : Sat H w) : Calls Tryz.prog 51 #[intV x, intV lo, intV hi] w (Ret w (.bool (decide (lo ≤ x ∧ x ≤ hi)))) := by
  refine T.enter (vs := [intV x, intV lo, intV hi]) (H := H) Tryz.func51 rfl rfl rfl hs ?_
  repeat (any_goals (first | refine T.seq ?_ | refine T.region ?_ | refine TL.nil ?_ | refine N.next ?_ | refine T.ret ?_ | (apply TL.skip; rfl; rfl; rfl) | (apply TL.val; rfl; rfl; (first | exact vpure | exact vread)) | (apply TL.guard; rfl; rfl; rfl; (exact isx); intro _; rotate_left; intro _; rotate_right)))
  all_goals (try (first | (apply N.ret_bool; rfl; (exact rvx)) | (apply N.ret_int; rfl; (exact rvx)) | (apply N.ret_val; rfl; (exact rvx))))
  all_goals (first | rfl | (rw [Bool.eq_iff_iff]; simp only [decide_eq_true_eq, Bool.false_eq_true, Bool.true_eq_false, true_iff, false_iff, iff_true, iff_false]; omega))
theorem c_within02 (x lo hi : Int) (H : Hp) (w : World) (hs : Sat H w) : Calls Tryz.prog 86 #[intV x, intV lo, intV hi] w (Ret w (.bool (decide (lo ≤ x ∧ x ≤ hi)))) := by
  refine T.enter (vs := [intV x, intV lo, intV hi]) (H := H) Tryz.func86 rfl rfl rfl hs ?_
  repeat (any_goals (first | refine T.seq ?_ | refine T.region ?_ | refine TL.nil ?_ | refine N.next ?_ | refine T.ret ?_ | (apply TL.skip; rfl; rfl; rfl) | (apply TL.val; rfl; rfl; (first | exact vpure | exact vread)) | (apply TL.guard; rfl; rfl; rfl; (exact isx); intro _; rotate_left; intro _; rotate_right)))
  all_goals (try (first | (apply N.ret_bool; rfl; (exact rvx)) | (apply N.ret_int; rfl; (exact rvx)) | (apply N.ret_val; rfl; (exact rvx))))
  all_goals (first | rfl | (rw [Bool.eq_iff_iff]; simp only [decide_eq_true_eq, Bool.false_eq_true, Bool.true_eq_false, true_iff, false_iff, iff_true, iff_false]; omega))
theorem c_bwithin (x lo hi : Int) (H : Hp) (w : World) (hs : Sat H w) : Calls Tryz.prog 143 #[.int .u8 x, .int .u8 lo, .int .u8 hi] w (Ret w (.bool (decide (lo ≤ x ∧ x ≤ hi)))) := by
  refine T.enter (vs := [.int .u8 x, .int .u8 lo, .int .u8 hi]) (H := H) Tryz.func143 rfl rfl rfl hs ?_
  repeat (any_goals (first | refine T.seq ?_ | refine T.region ?_ | refine TL.nil ?_ | refine N.next ?_ | refine T.ret ?_ | (apply TL.skip; rfl; rfl; rfl) | (apply TL.val; rfl; rfl; (first | exact vpure | exact vread)) | (apply TL.guard; rfl; rfl; rfl; (exact isx); intro _; rotate_left; intro _; rotate_right)))
  all_goals (try (first | (apply N.ret_bool; rfl; (exact rvx)) | (apply N.ret_int; rfl; (exact rvx)) | (apply N.ret_val; rfl; (exact rvx))))
  all_goals (first | rfl | (rw [Bool.eq_iff_iff]; simp only [decide_eq_true_eq, Bool.false_eq_true, Bool.true_eq_false, true_iff, false_iff, iff_true, iff_false]; omega))
theorem c_single (x : Int) (H : Hp) (w : World) (hs : Sat H w) : Calls Tryz.prog 87 #[intV x] w (Ret w (.bool (decide (x = 3 ∨ x = 4)))) := by
  refine T.enter (vs := [intV x]) (H := H) Tryz.func87 rfl rfl rfl hs ?_
  repeat (any_goals (first | refine T.seq ?_ | refine T.region ?_ | refine TL.nil ?_ | refine N.next ?_ | refine T.ret ?_ | (apply TL.skip; rfl; rfl; rfl) | (apply TL.val; rfl; rfl; (first | exact vpure | exact vread)) | (apply TL.guard; rfl; rfl; rfl; (exact isx); intro _; rotate_left; intro _; rotate_right)))
  all_goals (try (first | (apply N.ret_bool; rfl; (exact rvx)) | (apply N.ret_int; rfl; (exact rvx)) | (apply N.ret_val; rfl; (exact rvx))))
  all_goals (first | rfl | (rw [Bool.eq_iff_iff]; simp only [decide_eq_true_eq, Bool.false_eq_true, Bool.true_eq_false, true_iff, false_iff, iff_true, iff_false]; omega))
theorem c_HasPrefix0 (l p : Bytes) (H : Hp) (w : World) (hs : Sat H w) (hl : LenOk l) (hp : LenOk p) : Calls Tryz.prog 142 #[strV l, strV p] w (Ret w (.bool (decide (l.take p.length = p)))) := by
  refine T.enter (vs := [strV l, strV p]) (H := H) Tryz.func142 rfl rfl rfl hs ?_
  repeat (any_goals (first | refine T.seq ?_ | refine T.region ?_ | refine TL.nil ?_ | refine N.next ?_ | refine T.ret ?_ | (apply TL.skip; rfl; rfl; rfl) | (apply TL.val; rfl; rfl; (first | exact vpure | exact vread)) | (apply TL.guard; rfl; rfl; rfl; (exact isx); intro _; rotate_left; intro _; rotate_right)))
  all_goals (try (first | (apply N.ret_bool; rfl; (exact rvx)) | (apply N.ret_int; rfl; (exact rvx)) | (apply N.ret_val; rfl; (exact rvx))))
  · rfl
  · rename_i h
    refine (decide_eq_false fun e => h ?_).symm
    have := congrArg List.length e
    rw [List.length_take] at this; omega
theorem c_HasPrefix (l p : Bytes) (H : Hp) (w : World) (hs : Sat H w) (hl : LenOk l) (hp : LenOk p) : Calls Tryz.prog 100 #[strV l, strV p] w (Ret w (.bool (decide (l.take p.length = p)))) := by
  refine T.enter (vs := [strV l, strV p]) (H := H) Tryz.func100 rfl rfl rfl hs ?_
  repeat (any_goals (first | refine T.seq ?_ | refine T.region ?_ | refine TL.nil ?_ | refine N.next ?_ | refine T.ret ?_ | (apply TL.call0 (f := 142) Tryz.call142; rfl; rfl; rfl; (exact fun _ hs => c_HasPrefix0 _ _ _ _ hs.sat hl hp)) | (apply TL.val; rfl; rfl; (first | exact vpure | exact vread))))
  all_goals (try (first | (apply N.ret_bool; rfl; (exact rvx)) | (apply N.ret_int; rfl; (exact rvx)) | (apply N.ret_val; rfl; (exact rvx))))
  rfl
theorem c_isWildcard (l : Bytes) (H : Hp) (w : World) (hs : Sat H w) (hl : LenOk l) : Calls Tryz.prog 52 #[strV l] w (Ret w (.bool (wild l))) := by
  refine T.enter (vs := [strV l]) (H := H) Tryz.func52 rfl rfl rfl hs ?_
  repeat (any_goals (first | refine T.seq ?_ | refine T.region ?_ | refine TL.nil ?_ | refine N.next ?_ | refine T.ret ?_ | (apply TL.call0 (f := 100) Tryz.call100; rfl; rfl; rfl; (exact fun _ hs => c_HasPrefix _ [42] _ _ hs.sat hl (by decide))) | (apply TL.val; rfl; rfl; (first | exact vpure | exact vread))))
  all_goals (try (first | (apply N.ret_bool; rfl; (exact rvx)) | (apply N.ret_int; rfl; (exact rvx)) | (apply N.ret_val; rfl; (exact rvx))))
  rfl
theorem c_Wild (l : Bytes) (H : Hp) (w : World) (hs : Sat H w) (hl : LenOk l) : Calls Tryz.prog 88 #[strV l] w (Ret w (.bool (wild l))) := by
  refine T.enter (vs := [strV l]) (H := H) Tryz.func88 rfl rfl rfl hs ?_
  repeat (any_goals (first | refine T.seq ?_ | refine T.region ?_ | refine TL.nil ?_ | refine N.next ?_ | refine T.ret ?_ | (apply TL.skip; rfl; rfl; rfl) | (apply TL.val; rfl; rfl; (first | exact vpure | exact vread)) | (apply TL.guard; rfl; rfl; rfl; (exact isx); intro _; rotate_left; intro _; rotate_right)))
  all_goals (try (first | (apply N.ret_bool; rfl; (exact rvx)) | (apply N.ret_int; rfl; (exact rvx)) | (apply N.ret_val; rfl; (exact rvx))))
  all_goals (rw [wild_eq, Bool.eq_iff_iff]; simp only [decide_eq_true_eq, Bool.false_eq_true, Bool.true_eq_false, true_iff, false_iff, iff_true, iff_false]; omega)
theorem c_isLabel (l : Bytes) (H : Hp) (w : World) (hs : Sat H w) (hl : LenOk l) : Calls Tryz.prog 141 #[strV l] w (Ret w (.bool (isWord 45 12 l))) := by
  have hl' : l.length ≤ 9223372036854775807 := hl
  refine T.enter (vs := [strV l]) (H := H) Tryz.func141 rfl rfl rfl hs ?_
  repeat (any_goals (first | refine T.seq ?_ | refine T.region ?_ | refine TL.nil ?_ | refine N.next ?_ | refine N.ret_then ?_ | refine T.ret ?_ | refine T.skip ?_ | refine T.block ?_ | (apply T.cond_true; rfl) | (apply T.test; rfl; (exact isx); intro _; rotate_left; intro _; rotate_right) | (apply TL.skip; rfl; rfl; rfl) | (apply TL.val; rfl; rfl; (first | exact vpure | exact vread)) | (apply TL.guard; rfl; rfl; rfl; (exact isx); intro _; rotate_left; intro _; rotate_right)))
  all_goals (try (first | (apply N.ret_bool; rfl; (exact rvx)) | (apply N.ret_int; rfl; (exact rvx)) | (apply N.ret_val; rfl; (exact rvx))))
  all_goals (try simp only [show ((l.length : Int) - 1).toNat = l.length - 1 by omega] at *)
  all_goals first
    | exact (isWord_no (by omega)).symm
    | exact (isWord_noAt 0 (by omega) (by unfold WordAt; omega)).symm
    | exact (isWord_noAt (l.length - 1) (by omega) (by unfold WordAt; omega)).symm
    | skip
  refine T.loop (G := Nat) (fun k => [(0, strV l), (27, intV l.length), (28, intV k)]) (fun _ => H) (fun _ => []) (fun k => k ≤ l.length ∧ ∀ j, j < k → WordAt 45 l j) (fun k => l.length - k) 0 ⟨Nat.zero_le _, by omega⟩ (by (repeat (first | exact True.intro | refine ⟨rfl, ?_⟩ | refine Sub.int rfl (by omega) ?_))) rfl (by (first | exact List.Sublist.refl _ | exact List.nil_sublist _ | exact List.Sublist.cons _ (List.Sublist.refl _) | exact List.Sublist.cons _ (List.Sublist.cons _ (List.Sublist.refl _)))) ?_
  rintro k ⟨hk, hrel⟩
  repeat (any_goals (first | refine T.seq ?_ | refine T.region ?_ | refine TL.nil ?_ | refine N.next ?_ | refine N.inBlock ?_ | refine N.exit_same ?_ | refine N.exit_then ?_ | refine N.ret_then ?_ | refine N.ret_block ?_ | refine T.ret ?_ | refine T.skip ?_ | refine T.exit ?_ | refine T.block ?_ | (apply T.cond_false; rfl) | (apply T.test; rfl; (exact isx); intro _; rotate_left; intro _; rotate_right) | (apply TL.skip; rfl; rfl; rfl) | (apply TL.val; rfl; rfl; (first | exact vpure | exact vread)) | (apply TL.guard; rfl; rfl; rfl; (exact isx); intro _; rotate_left; intro _; rotate_right)))
  all_goals (try (first | (apply N.ret_bool; rfl; (exact rvx)) | (apply N.ret_int; rfl; (exact rvx)) | (apply N.ret_val; rfl; (exact rvx))))
  all_goals (try (refine N.round (k + 1) ?_ ?_ ?_ ?_ ?_; rotate_left 2; (repeat (first | exact True.intro | refine ⟨rfl, ?_⟩ | refine Sub.int rfl (by omega) ?_)); rfl; (first | exact List.Sublist.refl _ | exact List.nil_sublist _ | exact List.Sublist.cons _ (List.Sublist.refl _) | exact List.Sublist.cons _ (List.Sublist.cons _ (List.Sublist.refl _)))))
  all_goals first
    | omega
    | exact (isWord_noAt k (by omega) (by unfold WordAt; omega)).symm
    | exact ⟨by omega, up_lt hrel (by unfold WordAt; have : k = 0 ∨ k = l.length - 1 ∨ (0 < k ∧ k + 1 < l.length) := by omega
                                      rcases this with h | h | h
                                      · subst h; omega
                                      · subst h; omega
                                      · omega)⟩
    | exact (isWord_no (by omega)).symm
    | exact (isWord_yes (by omega) (by omega) (fun j hj => hrel j (by omega))).symm
    | (by_cases h : l.length ≤ 12
       · rw [decide_eq_true (by omega), isWord_yes (by omega) h fun j hj => hrel j (by omega)]
       · rw [decide_eq_false (by omega), isWord_no (by omega)])
theorem c_Label (l : Bytes) (H : Hp) (w : World) (hs : Sat H w) (hl : LenOk l) : Calls Tryz.prog 84 #[strV l] w (Ret w (.bool (isWord 45 12 l))) := by
  have hl' : l.length ≤ 9223372036854775807 := hl
  refine T.enter (vs := [strV l]) (H := H) Tryz.func84 rfl rfl rfl hs ?_
  repeat (any_goals (first | refine T.seq ?_ | refine T.region ?_ | refine TL.nil ?_ | refine N.next ?_ | refine T.block ?_ | (apply TL.val; rfl; rfl; (first | exact vpure | exact vread))))
  all_goals (try (first | (apply N.ret_bool; rfl; (exact rvx)) | (apply N.ret_int; rfl; (exact rvx)) | (apply N.ret_val; rfl; (exact rvx))))
  all_goals (try simp only [show ((l.length : Int) - 1).toNat = l.length - 1 by omega] at *)
  all_goals first
    | exact (isWord_no (by omega)).symm
    | exact (isWord_noAt 0 (by omega) (by unfold WordAt; omega)).symm
    | exact (isWord_noAt (l.length - 1) (by omega) (by unfold WordAt; omega)).symm
    | skip
  refine T.loop (G := Nat) (fun k => [(0, strV l), (3, intV k)]) (fun _ => H) (fun _ => []) (fun k => k ≤ l.length ∧ ∀ j, j < k → WordAt 45 l j) (fun k => l.length - k) 0 ⟨Nat.zero_le _, by omega⟩ (by (repeat (first | exact True.intro | refine ⟨rfl, ?_⟩ | refine Sub.int rfl (by omega) ?_))) rfl (by (first | exact List.Sublist.refl _ | exact List.nil_sublist _ | exact List.Sublist.cons _ (List.Sublist.refl _) | exact List.Sublist.cons _ (List.Sublist.cons _ (List.Sublist.refl _)))) ?_
  rintro k ⟨hk, hrel⟩
  repeat (any_goals (first | refine T.seq ?_ | refine T.region ?_ | refine TL.nil ?_ | refine N.next ?_ | refine N.inBlock ?_ | refine N.exit_same ?_ | refine N.exit_then ?_ | refine N.ret_then ?_ | refine N.ret_block ?_ | refine T.ret ?_ | refine T.skip ?_ | refine T.exit ?_ | refine T.block ?_ | (apply T.cond_true; rfl) | (apply T.cond_false; rfl) | (apply T.test; rfl; (exact isx); intro _; rotate_left; intro _; rotate_right) | (apply TL.skip; rfl; rfl; rfl) | (apply TL.val; rfl; rfl; (first | exact vpure | exact vread)) | (apply TL.guard; rfl; rfl; rfl; (exact isx); intro _; rotate_left; intro _; rotate_right)))
  all_goals (try (first | (apply N.ret_bool; rfl; (exact rvx)) | (apply N.ret_int; rfl; (exact rvx)) | (apply N.ret_val; rfl; (exact rvx))))
  all_goals (try (refine N.round (k + 1) ?_ ?_ ?_ ?_ ?_; rotate_left 2; (repeat (first | exact True.intro | refine ⟨rfl, ?_⟩ | refine Sub.int rfl (by omega) ?_)); rfl; (first | exact List.Sublist.refl _ | exact List.nil_sublist _ | exact List.Sublist.cons _ (List.Sublist.refl _) | exact List.Sublist.cons _ (List.Sublist.cons _ (List.Sublist.refl _)))))
  all_goals first
    | omega
    | exact (isWord_noAt k (by omega) (by unfold WordAt; omega)).symm
    | exact ⟨by omega, up_lt hrel (by unfold WordAt; have : k = 0 ∨ k = l.length - 1 ∨ (0 < k ∧ k + 1 < l.length) := by omega
                                      rcases this with h | h | h
                                      · subst h; omega
                                      · subst h; omega
                                      · omega)⟩
    | exact (isWord_no (by omega)).symm
    | exact (isWord_yes (by omega) (by omega) (fun j hj => hrel j (by omega))).symm
    | (by_cases h : l.length ≤ 12
       · rw [decide_eq_true (by omega), isWord_yes (by omega) h fun j hj => hrel j (by omega)]
       · rw [decide_eq_false (by omega), isWord_no (by omega)])
theorem c_isFree (l : Bytes) (H : Hp) (w : World) (hs : Sat H w) (hl : LenOk l) : Calls Tryz.prog 101 #[strV l] w (Ret w (.bool (isWord 32 40 l))) := by
  have hl' : l.length ≤ 9223372036854775807 := hl
  refine T.enter (vs := [strV l]) (H := H) Tryz.func101 rfl rfl rfl hs ?_
  repeat (any_goals (first | refine T.seq ?_ | refine T.region ?_ | refine TL.nil ?_ | refine N.next ?_ | refine N.ret_then ?_ | refine T.ret ?_ | refine T.skip ?_ | refine T.block ?_ | (apply T.cond_true; rfl) | (apply T.test; rfl; (exact isx); intro _; rotate_left; intro _; rotate_right) | (apply TL.skip; rfl; rfl; rfl) | (apply TL.call0 (f := 51) Tryz.call51; rfl; rfl; rfl; (exact fun _ hs => c_rwithin _ _ _ _ _ hs.sat)) | (apply TL.val; rfl; rfl; (first | exact vpure | exact vread)) | (apply TL.guard; rfl; rfl; rfl; (exact isx); intro _; rotate_left; intro _; rotate_right)))
  all_goals (try (first | (apply N.ret_bool; rfl; (exact rvx)) | (apply N.ret_int; rfl; (exact rvx)) | (apply N.ret_val; rfl; (exact rvx))))
  all_goals (try simp only [show ((l.length : Int) - 1).toNat = l.length - 1 by omega] at *)
  all_goals first
    | exact (isWord_no (by omega)).symm
    | exact (isWord_noAt 0 (by omega) (by unfold WordAt; omega)).symm
    | exact (isWord_noAt (l.length - 1) (by omega) (by unfold WordAt; omega)).symm
    | skip
  refine T.loop (G := Nat) (fun k => [(0, strV l), (23, intV l.length), (24, intV k)]) (fun _ => H) (fun _ => []) (fun k => k ≤ l.length ∧ ∀ j, j < k → WordAt 32 l j) (fun k => l.length - k) 0 ⟨Nat.zero_le _, by omega⟩ (by (repeat (first | exact True.intro | refine ⟨rfl, ?_⟩ | refine Sub.int rfl (by omega) ?_))) rfl (by (first | exact List.Sublist.refl _ | exact List.nil_sublist _ | exact List.Sublist.cons _ (List.Sublist.refl _) | exact List.Sublist.cons _ (List.Sublist.cons _ (List.Sublist.refl _)))) ?_
  rintro k ⟨hk, hrel⟩
  repeat (any_goals (first | refine T.seq ?_ | refine T.region ?_ | refine TL.nil ?_ | refine N.next ?_ | refine N.inBlock ?_ | refine N.exit_same ?_ | refine N.exit_then ?_ | refine N.ret_then ?_ | refine N.ret_block ?_ | refine T.ret ?_ | refine T.skip ?_ | refine T.exit ?_ | refine T.block ?_ | (apply T.cond_false; rfl) | (apply T.test; rfl; (exact isx); intro _; rotate_left; intro _; rotate_right) | (apply TL.skip; rfl; rfl; rfl) | (apply TL.call0 (f := 143) Tryz.call143; rfl; rfl; rfl; (exact fun _ hs => c_bwithin _ _ _ _ _ hs.sat)) | (apply TL.val; rfl; rfl; (first | exact vpure | exact vread)) | (apply TL.guard; rfl; rfl; rfl; (exact isx); intro _; rotate_left; intro _; rotate_right)))
  all_goals (try (first | (apply N.ret_bool; rfl; (exact rvx)) | (apply N.ret_int; rfl; (exact rvx)) | (apply N.ret_val; rfl; (exact rvx))))
  all_goals (try (refine N.round (k + 1) ?_ ?_ ?_ ?_ ?_; rotate_left 2; (repeat (first | exact True.intro | refine ⟨rfl, ?_⟩ | refine Sub.int rfl (by omega) ?_)); rfl; (first | exact List.Sublist.refl _ | exact List.nil_sublist _ | exact List.Sublist.cons _ (List.Sublist.refl _) | exact List.Sublist.cons _ (List.Sublist.cons _ (List.Sublist.refl _)))))
  all_goals first
    | omega
    | exact (isWord_noAt k (by omega) (by unfold WordAt; omega)).symm
    | exact ⟨by omega, up_lt hrel (by unfold WordAt; have : k = 0 ∨ k = l.length - 1 ∨ (0 < k ∧ k + 1 < l.length) := by omega
                                      rcases this with h | h | h
                                      · subst h; omega
                                      · subst h; omega
                                      · omega)⟩
    | exact (isWord_no (by omega)).symm
    | exact (isWord_yes (by omega) (by omega) (fun j hj => hrel j (by omega))).symm
    | (by_cases h : l.length ≤ 40
       · rw [decide_eq_true (by omega), isWord_yes (by omega) h fun j hj => hrel j (by omega)]
       · rw [decide_eq_false (by omega), isWord_no (by omega)])
theorem c_text (l : Bytes) (H : Hp) (w : World) (hs : Sat H w) (hl : LenOk l) : Calls Tryz.prog 138 #[strV l] w (Ret w (.bool (isWord 32 40 l))) := by
  have hl' : l.length ≤ 9223372036854775807 := hl
  refine T.enter (vs := [strV l]) (H := H) Tryz.func138 rfl rfl rfl hs ?_
  repeat (any_goals (first | refine T.seq ?_ | refine T.region ?_ | refine TL.nil ?_ | refine N.next ?_ | refine N.ret_then ?_ | refine T.ret ?_ | refine T.skip ?_ | refine T.block ?_ | (apply T.cond_true; rfl) | (apply T.test; rfl; (exact isx); intro _; rotate_left; intro _; rotate_right) | (apply TL.skip; rfl; rfl; rfl) | (apply TL.val; rfl; rfl; (first | exact vpure | exact vread)) | (apply TL.guard; rfl; rfl; rfl; (exact isx); intro _; rotate_left; intro _; rotate_right)))
  all_goals (try (first | (apply N.ret_bool; rfl; (exact rvx)) | (apply N.ret_int; rfl; (exact rvx)) | (apply N.ret_val; rfl; (exact rvx))))
  all_goals (try simp only [show ((l.length : Int) - 1).toNat = l.length - 1 by omega] at *)
  all_goals first
    | exact (isWord_no (by omega)).symm
    | exact (isWord_noAt 0 (by omega) (by unfold WordAt; omega)).symm
    | exact (isWord_noAt (l.length - 1) (by omega) (by unfold WordAt; omega)).symm
    | skip
  refine T.loop (G := Nat) (fun k => [(0, strV l), (3, intV l.length), (4, intV k)]) (fun _ => H) (fun _ => []) (fun k => k ≤ l.length ∧ ∀ j, j < k → WordAt 32 l j) (fun k => l.length - k) 0 ⟨Nat.zero_le _, by omega⟩ (by (repeat (first | exact True.intro | refine ⟨rfl, ?_⟩ | refine Sub.int rfl (by omega) ?_))) rfl (by (first | exact List.Sublist.refl _ | exact List.nil_sublist _ | exact List.Sublist.cons _ (List.Sublist.refl _) | exact List.Sublist.cons _ (List.Sublist.cons _ (List.Sublist.refl _)))) ?_
  rintro k ⟨hk, hrel⟩
  repeat (any_goals (first | refine T.seq ?_ | refine T.region ?_ | refine TL.nil ?_ | refine N.next ?_ | refine N.inBlock ?_ | refine N.exit_same ?_ | refine N.exit_then ?_ | refine N.ret_then ?_ | refine N.ret_block ?_ | refine T.ret ?_ | refine T.skip ?_ | refine T.exit ?_ | refine T.block ?_ | (apply T.cond_false; rfl) | (apply T.test; rfl; (exact isx); intro _; rotate_left; intro _; rotate_right) | (apply TL.skip; rfl; rfl; rfl) | (apply TL.val; rfl; rfl; (first | exact vpure | exact vread)) | (apply TL.guard; rfl; rfl; rfl; (exact isx); intro _; rotate_left; intro _; rotate_right)))
  all_goals (try (first | (apply N.ret_bool; rfl; (exact rvx)) | (apply N.ret_int; rfl; (exact rvx)) | (apply N.ret_val; rfl; (exact rvx))))
  all_goals (try (refine N.round (k + 1) ?_ ?_ ?_ ?_ ?_; rotate_left 2; (repeat (first | exact True.intro | refine ⟨rfl, ?_⟩ | refine Sub.int rfl (by omega) ?_)); rfl; (first | exact List.Sublist.refl _ | exact List.nil_sublist _ | exact List.Sublist.cons _ (List.Sublist.refl _) | exact List.Sublist.cons _ (List.Sublist.cons _ (List.Sublist.refl _)))))
  all_goals first
    | omega
    | exact (isWord_noAt k (by omega) (by unfold WordAt; omega)).symm
    | exact ⟨by omega, up_lt hrel (by unfold WordAt; have : k = 0 ∨ k = l.length - 1 ∨ (0 < k ∧ k + 1 < l.length) := by omega
                                      rcases this with h | h | h
                                      · subst h; omega
                                      · subst h; omega
                                      · omega)⟩
    | exact (isWord_no (by omega)).symm
    | exact (isWord_yes (by omega) (by omega) (fun j hj => hrel j (by omega))).symm
    | (by_cases h : l.length ≤ 40
       · rw [decide_eq_true (by omega), isWord_yes (by omega) h fun j hj => hrel j (by omega)]
       · rw [decide_eq_false (by omega), isWord_no (by omega)])
end Go.Proofs.YtepljgpikfeklaaGreatDoor
