import Derived.Test.YthabgdbhgcgemaaGreatDoorQSpec
import Derived.Test.YthabgdbhgcgemaaGreatDoorQOrd
import Derived.Test.YthabgdbhgcgemaaGreatDoorQData
import Derived.Test.YthabgdbhgcgemaaGreatDoorQWB
import Derived.Test.YthabgdbhgcgemaaGreatDoorQDataH
import Derived.Test.YthabgdbhgcgemaaGreatDoorQEngC
namespace Go.Proofs.YthabgdbhgcgemaaGreatDoor
set_option linter.unusedVariables false
set_option linter.unusedSimpArgs false
open Go
structure EntryC where
  signed : SignedC
  zone : Bytes
  til : Int
  deriving DecidableEq
def starN (z : Bytes) : Bool := decide ((parts z).head? = some [42])
def sigForm (apex : Bytes) (h g : Sig) : Bool := decide (g.zone = apex) && decide (1 ≤ g.key ∧ g.key ≤ 1000000) && decide (1 ≤ g.alg ∧ g.alg ≤ 3) && decide (g.frm = h.frm) && decide (g.til = h.til) && decide (0 ≤ g.frm ∧ g.frm ≤ g.til ∧ g.til ≤ 20000000)
def keyLt (a b : Sig) : Bool := decide (a.key < b.key)
def sigsForm (l : List Sig) (apex : Bytes) : Bool := decide (l.length ≤ 6) && l.all (fun g => sigForm apex (l.headD g) g) && chain keyLt l
end Go.Proofs.YthabgdbhgcgemaaGreatDoor
namespace Go.Proofs.YthabgdbhgcgemaaGreatDoor
set_option linter.unusedVariables false
set_option linter.unusedSimpArgs false
open Go
end Go.Proofs.YthabgdbhgcgemaaGreatDoor
namespace Go.Proofs.YthabgdbhgcgemaaGreatDoor
set_option linter.unusedVariables false
set_option linter.unusedSimpArgs false
open Go
end Go.Proofs.YthabgdbhgcgemaaGreatDoor
namespace Go.Proofs.YthabgdbhgcgemaaGreatDoor
set_option linter.unusedVariables false
set_option linter.unusedSimpArgs false
open Go
end Go.Proofs.YthabgdbhgcgemaaGreatDoor
namespace Go.Proofs.YthabgdbhgcgemaaGreatDoor
set_option linter.unusedVariables false
set_option linter.unusedSimpArgs false
open Go
def leN (a b : Bytes) : Bool := leL (labs a) (labs b)
def ordN (a b : Bytes) : Int := lexL (labs a) (labs b)
theorem labs_rev (l : Bytes) : parts l = (labs l).reverse := by
  unfold parts labs
  split
  · rfl
  · rw [List.reverse_reverse]
theorem inN_un (s z : Bytes) : inN s z = unL (labs s) (labs z) := by
  unfold inN unL
  rw [labs_rev, labs_rev]
  exact decide_eq_decide.2 List.reverse_suffix
theorem parts_inj {a b : Bytes} (ha : nameOK a = true) (hb : nameOK b = true) (h : parts a = parts b) : a = b := by
  unfold parts at h
  split at h
  · rename_i e
    split at h
    · rename_i e'; rw [e, e']
    · exact absurd h.symm (splitDots_ne b)
  · split at h
    · exact absurd h (splitDots_ne a)
    · exact split_inj h
theorem labs_inj {a b : Bytes} (ha : nameOK a = true) (hb : nameOK b = true) (h : labs a = labs b) : a = b :=
  parts_inj ha hb (by rw [labs_rev, labs_rev, h])
theorem ordN_zero {a b : Bytes} (ha : nameOK a = true) (hb : nameOK b = true) : ordN a b = 0 ↔ a = b :=
  ⟨fun h => labs_inj ha hb (lexL_zero h), fun h => by subst h; exact lexL_self _⟩
theorem leN_iff {a b : Bytes} : leN a b = true ↔ ordN a b ≤ 0 := by unfold leN leL ordN; rw [decide_eq_true_iff]
theorem leN_anti {a b : Bytes} (ha : nameOK a = true) (hb : nameOK b = true) (h : leN a b = true) (k : leN b a = true) : a = b := labs_inj ha hb (leL_anti h k)
theorem ordNames : Ord leN inN where
  refl a := leL_refl _
  total a b := leL_total _ _
  trans h k := leL_trans h k
  unLe h := unL_le (by rw [← inN_un]; exact h)
  unRefl a := in_refl a
  between h k j := by rw [inN_un] at h ⊢; exact unL_between h k j
theorem name_ne {s : Bytes} (h : nameOK s = true) : s ≠ [] := fun e => by
  have := name_pos h
  rw [e] at this; simp at this
theorem name_len60 {l : Bytes} (h : nameOK l = true) : l.length ≤ 60 := by
  rcases (nameOK_iff l).1 h with rfl | ⟨h1, _⟩
  · decide
  · exact h1
structure ZoneC where
  apex : Bytes
  sets : List SignedC
deriving DecidableEq
def ordSet (a b : SetC) : Int := if ordN a.name b.name = 0 then cmpI a.typ b.typ else ordN a.name b.name
def cmpPl (a b : SetC) : Int := if a.name = b.name then cmpI a.typ b.typ else ordN a.name b.name
theorem cmpPl_eq {a b : SetC} (ha : nameOK a.name = true) (hb : nameOK b.name = true) : cmpPl a b = ordSet a b := by
  unfold cmpPl ordSet
  by_cases h : a.name = b.name
  · rw [if_pos h, if_pos ((ordN_zero ha hb).2 h)]
  · rw [if_neg h, if_neg (fun e => h ((ordN_zero ha hb).1 e))]
def placedOK (t : Int) (atApex : Bool) : Bool := if atApex = true then decide (t ≠ 3 ∧ t ≠ 6) else decide (t ≠ 4 ∧ t ≠ 7)
def cutNames (z : ZoneC) : List Bytes := (z.sets.filter fun s => decide (s.set.typ = 2) && !decide (s.set.name = z.apex)).map (·.set.name)
def namesZ (z : ZoneC) : List Bytes := z.sets.map (·.set.name)
def isCut (z : ZoneC) (n : Bytes) : Bool := decide (n ∈ cutNames z)
def behZ (z : ZoneC) : List (Option Bytes) := layO inN (isCut z) none (namesZ z)
def behRZ (z : ZoneC) : List (Option Bytes) := behO leN inN (highC inN (cutNames z)) 0 (namesZ z)
structure OneZ (z : ZoneC) : Prop where
  apexOK : nameOK z.apex = true
  tame : starN z.apex = false
  few : z.sets.length ≤ 20000
  each : ∀ i (h : i < z.sets.length), setOK z.sets[i].set = true ∧ inN z.sets[i].set.name z.apex = true ∧ ∀ h0 : 0 < i, ordSet (z.sets[i - 1]'(by omega)).set z.sets[i].set < 0
structure TwoZ (z : ZoneC) : Prop where
  start : ∃ s ∈ z.sets, s.set.name = z.apex ∧ s.set.typ = 4
  server : ∃ s ∈ z.sets, s.set.name = z.apex ∧ s.set.typ = 2
  placed : ∀ s ∈ z.sets, placedOK s.set.typ (decide (s.set.name = z.apex)) = true
def ThreeZ (z : ZoneC) : Prop := ∀ i (h : i + 1 < z.sets.length), z.sets[i].set.name = z.sets[i + 1].set.name → z.sets[i + 1].set.typ ≠ 3 ∧ (z.sets[i].set.typ = 3 → z.sets[i + 1].set.typ = 8)
def fourOK (b : Option Bytes) (s : SetC) : Prop := (∀ c, b = some c → (s.typ = 1 ∨ s.name = c)) ∧ (b = some s.name → s.typ = 1 ∨ s.typ = 2 ∨ s.typ = 6 ∨ s.typ = 8) ∧ (s.typ = 6 → b = some s.name)
def FourZ (z : ZoneC) (beh : List (Option Bytes)) : Prop := ∀ i (h : i < z.sets.length), fourOK (beh[i]?.getD none) z.sets[i].set
def fiveOK (apex : Bytes) (b : Option Bytes) (s : SignedC) : Prop := sigsForm s.sigs apex = true ∧ (b ≠ none → (s.set.typ = 2 ∨ s.set.typ = 1) → s.sigs = [])
def FiveZ (z : ZoneC) (beh : List (Option Bytes)) : Prop := ∀ i (h : i < z.sets.length), fiveOK z.apex (beh[i]?.getD none) z.sets[i]
structure ZonedR (z : ZoneC) : Prop where
  one : OneZ z
  two : TwoZ z
  three : ThreeZ z
  four : FourZ z (behRZ z)
  five : FiveZ z (behRZ z)
theorem OneZ.nameAt {z : ZoneC} (h : OneZ z) {i : Nat} (hi : i < z.sets.length) : nameOK z.sets[i].set.name = true := by
  have := (h.each i hi).1
  unfold setOK at this
  simp only [Bool.and_eq_true] at this
  exact this.1.1.1.1.1.1.1
theorem OneZ.nameMem {z : ZoneC} (h : OneZ z) {s : SignedC} (hs : s ∈ z.sets) : nameOK s.set.name = true := by
  obtain ⟨i, hi, rfl⟩ := List.mem_iff_getElem.1 hs
  exact h.nameAt hi
theorem ordSet_le {a b : SetC} (h : ordSet a b < 0) : leN a.name b.name = true := by
  unfold ordSet at h
  rw [leN_iff]
  split at h <;> omega
theorem pairwise_of_steps {α : Type} {r : α → α → Prop} (htr : ∀ {a b c}, r a b → r b c → r a c) : ∀ {l : List α}, (∀ i (h : i + 1 < l.length), r l[i] l[i + 1]) → l.Pairwise r
  | [], _ => List.Pairwise.nil
  | [_], _ => List.pairwise_singleton ..
  | a :: b :: l, h => by
    have ih := pairwise_of_steps (r := r) htr (l := b :: l) fun i hi => h (i + 1) (Nat.succ_lt_succ hi)
    have hab : r a b := h 0 (by simp)
    refine List.pairwise_cons.2 ⟨fun x hx => ?_, ih⟩
    rcases List.mem_cons.1 hx with rfl | hx
    · exact hab
    · exact htr hab ((List.pairwise_cons.1 ih).1 x hx)
theorem OneZ.sorted {z : ZoneC} (h : OneZ z) : (namesZ z).Pairwise fun a b => leN a b = true := by
  refine pairwise_of_steps (r := fun a b => leN a b = true) (fun h k => ordNames.trans h k) fun i hi => ?_
  unfold namesZ at hi ⊢
  rw [List.length_map] at hi
  rw [List.getElem_map, List.getElem_map]
  have := (h.each (i + 1) hi).2.2 (Nat.succ_pos i)
  exact ordSet_le this
theorem cutNames_mem {z : ZoneC} {n : Bytes} : n ∈ cutNames z ↔ ∃ s ∈ z.sets, s.set.typ = 2 ∧ s.set.name ≠ z.apex ∧ s.set.name = n := by
  unfold cutNames
  simp only [List.mem_map, List.mem_filter, Bool.and_eq_true, decide_eq_true_eq, Bool.not_eq_true', decide_eq_false_iff_not]
  constructor
  · rintro ⟨s, ⟨h1, h2, h3⟩, h4⟩; exact ⟨s, h1, h2, h3, h4⟩
  · rintro ⟨s, h1, h2, h3, h4⟩; exact ⟨s, ⟨h1, h2, h3⟩, h4⟩
theorem beh_eq {z : ZoneC} (h : OneZ z) : behRZ z = behZ z := by
  have hN := h.sorted
  have hC : (cutNames z).Pairwise fun a b => leN a b = true := by
    have hsub : List.Sublist (cutNames z) (namesZ z) := by
      unfold cutNames namesZ
      exact (List.filter_sublist (l := z.sets)).map _
    exact hN.sublist hsub
  have hok : ∀ n ∈ namesZ z, nameOK n = true := fun n hn => by
    unfold namesZ at hn
    obtain ⟨s, hs, rfl⟩ := List.mem_map.1 hn
    exact h.nameMem hs
  refine beh_lay0 ordNames (fun a ha b hb => leN_anti (hok a ha) (hok b hb)) (highC_ok ordNames hC (fun c hc => ⟨?_, ?_⟩) (fun c _ hc => ?_)) hN
  · obtain ⟨s, h1, _, _, h4⟩ := cutNames_mem.1 hc
    unfold namesZ
    exact List.mem_map.2 ⟨s, h1, h4⟩
  · exact decide_eq_true hc
  · exact of_decide_eq_true hc
end Go.Proofs.YthabgdbhgcgemaaGreatDoor
namespace Go.Proofs.YthabgdbhgcgemaaGreatDoor
set_option linter.unusedVariables false
set_option linter.unusedSimpArgs false
open Go
open Enc (enc)
structure Entry where
  signed : Signed
  zone : Bytes
  til : Int
instance : Enc Entry where
  size := 7
  enc e := [strV e.signed.set.name, intV e.signed.set.typ, intV e.signed.set.life, .slice e.signed.set.data.A e.signed.set.data.len e.signed.set.data.cap, .slice e.signed.sigs.A e.signed.sigs.len e.signed.sigs.cap, strV e.zone, intV e.til]
  good H e := Enc.good H e.signed ∧ LenOk e.zone ∧ I64 e.til
  len _ := rfl
  mono hle h := ⟨Enc.mono hle h.1, h.2⟩
  one _ := rfl
  pos := by decide
end Go.Proofs.YthabgdbhgcgemaaGreatDoor
namespace Go.Proofs.YthabgdbhgcgemaaGreatDoor
set_option linter.unusedVariables false
set_option linter.unusedSimpArgs false
open Go Go.RowKit
set_option maxRecDepth 20000
theorem c_HasSuffix0 (l p : Bytes) (H : Hp) (w : World) (hs : Sat H w) (hl : LenOk l) (hp : LenOk p) : Calls Tryz.prog 185 #[strV l, strV p] w (Ret w (.bool (decide (p <:+ l)))) := by
  have hl' : l.length ≤ 9223372036854775807 := hl
  have hp' : p.length ≤ 9223372036854775807 := hp
  refine T.enter (vs := [strV l, strV p]) (H := H) Tryz.func185 rfl rfl rfl hs ?_
  repeat (any_goals (first | refine T.seq ?_ | refine T.region ?_ | refine TL.nil ?_ | refine N.next ?_ | refine T.ret ?_ | (apply TL.skip; rfl; rfl; rfl) | (apply TL.val; rfl; rfl; (first | exact vpure | exact vread)) | (apply TL.guard; rfl; rfl; rfl; (exact isx); intro _; rotate_left; intro _; rotate_right)))
  all_goals (try (first | (apply N.ret_bool; rfl; (exact rvx)) | (apply N.ret_int; rfl; (exact rvx)) | (apply N.ret_val; rfl; (exact rvx))))
  · have e : ((l.length : Int) - p.length).toNat = l.length - p.length := by omega
    rw [e]
    exact decide_eq_decide.2 (eq_comm.trans List.suffix_iff_eq_drop.symm)
  · rename_i h
    refine (decide_eq_false fun e => h ?_).symm
    have := e.length_le
    omega
theorem c_HasSuffix (l p : Bytes) (H : Hp) (w : World) (hs : Sat H w) (hl : LenOk l) (hp : LenOk p) : Calls Tryz.prog 158 #[strV l, strV p] w (Ret w (.bool (decide (p <:+ l)))) := by
  refine T.enter (vs := [strV l, strV p]) (H := H) Tryz.func158 rfl rfl rfl hs ?_
  repeat (any_goals (first | refine T.seq ?_ | refine T.region ?_ | refine TL.nil ?_ | refine N.next ?_ | refine T.ret ?_ | (apply TL.call0 (f := 185) Tryz.call185; rfl; rfl; rfl; (exact fun _ hs => c_HasSuffix0 _ _ _ _ hs.sat hl hp)) | (apply TL.val; rfl; rfl; (first | exact vpure | exact vread))))
  all_goals (try (first | (apply N.ret_bool; rfl; (exact rvx)) | (apply N.ret_int; rfl; (exact rvx)) | (apply N.ret_val; rfl; (exact rvx))))
  rfl
theorem N.ret_two {m : Nat} {P : Program} {w0 : World} {H0 H : Hp} {L : List Loc} {env : List (Nat × Value)} {ro : Option Nat} {fn : Func} {r s : ResultVar} {v u : Value} {x : Value} (hr : fn.results = #[r, s]) (h1 : RV P ⟨m, [], ro⟩ w0 H0 env H L r v) (h2 : RV P ⟨m, [], ro⟩ w0 H0 env H L s u) (he : .tuple #[v, u] = x) : N ⟨m, [], ro⟩ w0 H0 (bodyPost P fn (Ret w0 x)) .ret env H L :=
  N.ret2 hr h1 h2 fun _ hs => ⟨by rw [he], hs.below⟩
def underC (s z : Bytes) : Bool × Int := if nameOK s = true ∧ nameOK z = true then (underB s z, 0) else (false, 11)
theorem underC_val {l p : Bytes} {b : Bool} {e : Int} (h : underC l p = (b, e)) : Value.tuple #[.bool b, intV e] = .tuple #[.bool (underC l p).1, intV (underC l p).2] := by rw [h]
theorem c_Under (l p : Bytes) (H : Hp) (w : World) (hs : Sat H w) (hl : LenOk l) (hp : LenOk p) : Calls Tryz.prog 130 #[strV l, strV p] w (Ret w (.tuple #[.bool (underC l p).1, intV (underC l p).2])) := by
  have hl' : l.length ≤ 9223372036854775807 := hl
  have hp' : p.length ≤ 9223372036854775807 := hp
  refine T.enter (vs := [strV l, strV p]) (H := H) Tryz.func130 rfl rfl rfl hs ?_
  repeat (any_goals (first | refine T.seq ?_ | refine T.region ?_ | refine TL.nil ?_ | refine N.next ?_ | refine N.ret_then ?_ | refine T.ret ?_ | refine T.skip ?_ | (apply T.cond_true; rfl) | (apply T.test; rfl; (exact isx); intro _; rotate_left; intro _; rotate_right) | (apply TL.skip; rfl; rfl; rfl) | (apply TL.call0 (f := 152) Tryz.call152; rfl; rfl; rfl; (exact fun _ hs => c_textValid _ _ _ hs.sat (by assumption))) | (apply TL.call0 (f := 158) Tryz.call158; rfl; rfl; rfl; (exact fun _ hs => c_HasSuffix _ _ _ _ hs.sat hl hp)) | (apply TL.val; rfl; rfl; (first | exact vpure | exact vread)) | (apply TL.guard; rfl; rfl; rfl; (exact isx); intro _; rotate_left; intro _; rotate_right)))
  all_goals (apply N.ret_two rfl (by (exact rvx)) (by (exact rvx)))
  all_goals refine underC_val ?_
  all_goals (try (have hh : ¬ p.length < l.length := by omega))
  all_goals (try (have hh : p.length < l.length := by omega))
  all_goals unfold underC underB
  all_goals (try (simp [*]; done))
  all_goals rw [if_pos ⟨by assumption, by assumption⟩]
  all_goals first
    | (rw [decide_eq_true (show p = [46] by assumption), Bool.or_true, Bool.true_or]; done)
    | (rw [decide_eq_false (show ¬ l = p by assumption), decide_eq_false (show ¬ p = [46] by assumption), decide_eq_true hh, decide_eq_true (show p <:+ l by assumption), show ((l.length : Int) - p.length - 1).toNat = l.length - p.length - 1 by omega]
       refine congrArg (fun b => (b, (0 : Int))) ?_
       simp only [Bool.false_or, Bool.true_and]
       exact decide_eq_decide.2 ⟨fun h => by rw [h]; rfl, fun h => UInt8.toNat_inj.1 (by show _ = 46; omega)⟩)
    | trace_state
end Go.Proofs.YthabgdbhgcgemaaGreatDoor
namespace Go.Proofs.YthabgdbhgcgemaaGreatDoor
set_option linter.unusedVariables false
set_option linter.unusedSimpArgs false
open Go Go.RowKit
set_option maxRecDepth 20000
theorem c_Parts (l : Bytes) (H : Hp) (w : World) (hs : Sat H w) (hl : l.length ≤ 1000000) : Calls Tryz.prog 143 #[strV l] w (RetF w H (fun p : Hp × Slc Bytes => p.2.els = parts l ∧ p.2.Good p.1) (fun p => p.2.v) (fun p => p.1)) := by
  refine T.enter (vs := [strV l]) (H := H) Tryz.func143 rfl rfl rfl hs ?_
  repeat (any_goals (first | refine T.seq ?_ | refine T.region ?_ | refine TL.nil ?_ | refine N.next ?_ | refine N.ret_then ?_ | refine T.ret ?_ | refine T.skip ?_ | (apply T.test; rfl; (exact isx); intro _; rotate_left; intro _; rotate_right) | (apply TL.x; rfl; rfl; (apply X.callF0 (f := 141) Tryz.call141; rfl; rfl; (exact fun _ hs => c_Split _ _ _ hs.sat hl)); intro _ _) | (apply TL.val; rfl; rfl; (first | exact vpure | exact vread))))
  · rename_i h
    refine N.ret1 rfl (by (exact rvx)) fun w1 hs1 => ⟨(H, Slc.nil _), ⟨by unfold parts; rw [if_pos h]; rfl, Slc.nil_good⟩, rfl, hs1.fresh⟩
  · rename_i h p hp
    refine N.ret1 rfl (by (exact rvx)) fun w1 hs1 => ⟨p, ⟨by unfold parts; rw [if_neg h]; exact hp.1.1, hp.1.2⟩, rfl, hs1.fresh⟩
theorem suffix_at {α : Type} {d : α} {a b : List α} (h : b.length ≤ a.length) : (b <:+ a) ↔ ∀ j, j < b.length → a.getD (a.length - b.length + j) d = b.getD j d := by
  rw [List.suffix_iff_eq_drop]
  constructor
  · intro e j hj
    have := congrArg (fun x : List α => x[j]?) e
    simp only [List.getElem?_drop] at this
    rw [List.getD_eq_getElem?_getD, List.getD_eq_getElem?_getD, this]
  · intro e
    refine List.ext_getElem (by rw [List.length_drop]; omega) fun j h1 h2 => ?_
    have := e j h1
    rw [List.getElem_drop]
    rw [List.getD_eq_getElem?_getD, List.getD_eq_getElem?_getD, List.getElem?_eq_getElem h1, List.getElem?_eq_getElem (by omega)] at this
    exact this.symm
set_option maxHeartbeats 1000000 in
theorem c_In (l z : Bytes) (H : Hp) (w : World) (hs : Sat H w) (hl : l.length ≤ 1000000) (hz : z.length ≤ 1000000) : Calls Tryz.prog 121 #[strV l, strV z] w (Ret w (.bool (inN l z))) := by
  refine T.enter (vs := [strV l, strV z]) (H := H) Tryz.func121 rfl rfl rfl hs ?_
  repeat (any_goals (first | refine T.seq ?_ | refine T.region ?_ | refine TL.nil ?_ | refine N.next ?_ | refine N.ret_then ?_ | refine T.ret ?_ | refine T.skip ?_ | refine T.block ?_ | (apply T.test; rfl; (exact isx); intro _; rotate_left; intro _; rotate_right) | (apply TL.x; rfl; rfl; (apply X.callF0 (f := 143) Tryz.call143; rfl; rfl; (exact fun _ hs => c_Parts _ _ _ hs.sat (by assumption))); intro _ _) | (apply TL.val; rfl; rfl; (first | exact vpure | exact vread))))
  all_goals (try (first | (apply N.ret_bool; rfl; (exact rvx)) | (apply N.ret_int; rfl; (exact rvx)) | (apply N.ret_val; rfl; (exact rvx))))
  · rename_i p1 hp1 p2 hp2 h
    refine (decide_eq_false fun e => ?_).symm
    have := e.length_le
    rw [← hp1.1.1, ← hp2.1.1, hp1.1.2.len, hp2.1.2.len] at this
    omega
  · rename_i p1 hp1 p2 hp2 h
    obtain ⟨H1, s⟩ := p1
    obtain ⟨⟨hsl, hsg⟩, hle1⟩ := hp1
    obtain ⟨H2, t⟩ := p2
    obtain ⟨⟨htl, htg⟩, hle2⟩ := hp2
    simp only at hsl hsg hle1 htl htg hle2 h ⊢
    have hsg := hsg.mono hle2
    have hslen := hsg.len
    have htlen := htg.len
    have hslim := hsg.lim
    have hiff := suffix_at (d := ([] : Bytes)) (a := s.els) (b := t.els) (by omega)
    rw [hslen, htlen] at hiff
    have hin : inN l z = decide (t.els <:+ s.els) := by unfold inN; rw [hsl, htl]
    refine T.loop (G := Nat) (fun k => [(5, s.v), (6, t.v), (7, intV k)]) (fun _ => H2) (fun _ => []) (fun k => k ≤ t.len ∧ ∀ j, j < k → s.els.getD (s.len - t.len + j) [] = t.els.getD j []) (fun k => t.len - k) 0 ⟨Nat.zero_le _, fun j h => by omega⟩ (by (repeat (first | exact True.intro | refine ⟨rfl, ?_⟩ | refine Sub.int rfl (by omega) ?_))) rfl (by (first | exact List.Sublist.refl _ | exact List.nil_sublist _ | exact List.Sublist.cons _ (List.Sublist.refl _) | exact List.Sublist.cons _ (List.Sublist.cons _ (List.Sublist.refl _)))) ?_
    rintro k ⟨hk, hrel⟩
    have e1 : ((s.len : Int) - t.len + k).toNat = s.len - t.len + k := by omega
    repeat (any_goals (first | refine T.seq ?_ | refine T.region ?_ | (apply T.regionD wide; rfl) | refine TL.nil ?_ | refine N.next ?_ | refine N.inBlock ?_ | refine N.exit_same ?_ | refine N.exit_then ?_ | refine N.ret_then ?_ | refine N.ret_block ?_ | refine T.ret ?_ | refine T.skip ?_ | refine T.exit ?_ | refine T.block ?_ | (apply T.test; rfl; (exact isx); intro _; rotate_left; intro _; rotate_right) | (apply TL.val; rfl; rfl; (first | exact vpure | exact vread)) | (apply GT.pure; (iterate 4 rfl); (first | exact vpure); decide +kernel) | (apply GT.read; (iterate 4 rfl); (first | exact vpure | exact vread); decide +kernel) | (apply GT.done; decide +kernel; apply N.ofQ)))
    · rename_i hk1 hne
      refine N.ret_bool rfl (by (exact rvx)) ?_
      rw [hin]
      refine (decide_eq_false fun e => hne ?_).symm
      have := hiff.1 e k (by omega)
      rw [List.getD_eq_getElem?_getD, List.getD_eq_getElem?_getD, List.getElem?_eq_getElem (by omega), List.getElem?_eq_getElem (by omega)] at this
      simpa [e1] using this
    · rename_i hk1 heq
      refine N.round (k + 1) ⟨by omega, fun j hj => ?_⟩ (by show t.len - (k + 1) < t.len - k; omega) (by (repeat (first | exact True.intro | refine ⟨rfl, ?_⟩ | refine Sub.int rfl (by omega) ?_))) rfl (by (first | exact List.Sublist.refl _ | exact List.nil_sublist _ | exact List.Sublist.cons _ (List.Sublist.refl _) | exact List.Sublist.cons _ (List.Sublist.cons _ (List.Sublist.refl _))))
      by_cases hjk : j = k
      · subst hjk
        rw [List.getD_eq_getElem?_getD, List.getD_eq_getElem?_getD, List.getElem?_eq_getElem (by omega), List.getElem?_eq_getElem (by omega)]
        simpa [e1] using heq
      · exact hrel j (by omega)
    · refine N.ret_bool rfl (by (exact rvx)) ?_
      rw [hin]
      exact (decide_eq_true (hiff.2 fun j hj => hrel j (by omega))).symm
def wildN (l : Bytes) : Bool := decide ((parts l)[0]? = some [42])
theorem c_Wild01 (l : Bytes) (H : Hp) (w : World) (hs : Sat H w) (hl : l.length ≤ 1000000) : Calls Tryz.prog 119 #[strV l] w (Ret w (.bool (wildN l))) := by
  refine T.enter (vs := [strV l]) (H := H) Tryz.func119 rfl rfl rfl hs ?_
  repeat (any_goals (first | refine T.seq ?_ | refine T.region ?_ | refine TL.nil ?_ | refine N.next ?_ | refine T.ret ?_ | (apply TL.skip; rfl; rfl; rfl) | (apply TL.x; rfl; rfl; (apply X.callF0 (f := 143) Tryz.call143; rfl; rfl; (exact fun _ hs => c_Parts _ _ _ hs.sat (by assumption))); intro _ _) | (apply TL.val; rfl; rfl; (first | exact vpure | exact vread)) | (apply TL.guard; rfl; rfl; rfl; (exact isx); intro _; rotate_left; intro _; rotate_right)))
  all_goals (try (first | (apply N.ret_bool; rfl; (exact rvx)) | (apply N.ret_int; rfl; (exact rvx)) | (apply N.ret_val; rfl; (exact rvx))))
  · rename_i p hp h
    have hl0 := hp.1.2.len
    have hsg := hp.1.2
    have hpos : 0 < p.2.len := by omega
    repeat (any_goals (first | refine TL.nil ?_ | refine N.next ?_ | refine T.ret ?_ | (apply TL.val; rfl; rfl; (first | exact vpure | exact vread))))
    all_goals (try (first | (apply N.ret_bool; rfl; (exact rvx)) | (apply N.ret_int; rfl; (exact rvx)) | (apply N.ret_val; rfl; (exact rvx))))
    unfold wildN
    rw [← hp.1.1, List.getElem?_eq_getElem (by omega)]
    exact decide_eq_decide.2 ⟨fun e => congrArg some e, fun e => Option.some.inj e⟩
  · rename_i p hp h
    have hl0 := hp.1.2.len
    unfold wildN
    rw [← hp.1.1, List.getElem?_eq_none (by omega)]
    rfl
end Go.Proofs.YthabgdbhgcgemaaGreatDoor
namespace Go.Proofs.YthabgdbhgcgemaaGreatDoor
set_option linter.unusedVariables false
set_option linter.unusedSimpArgs false
open Go Go.RowKit
set_option maxRecDepth 20000
theorem wildN_star (l : Bytes) : wildN l = starN l := by unfold wildN starN; rw [List.head?_eq_getElem?]
end Go.Proofs.YthabgdbhgcgemaaGreatDoor
namespace Go.Proofs.YthabgdbhgcgemaaGreatDoor
set_option linter.unusedVariables false
set_option linter.unusedSimpArgs false
open Go Go.RowKit
set_option maxRecDepth 20000
end Go.Proofs.YthabgdbhgcgemaaGreatDoor
