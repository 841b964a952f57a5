import Derived.Test.YthabgdbhgcgemaaGreatDoorQNA
import Derived.Test.YthabgdbhgcgemaaGreatDoorQDataH
import Derived.Test.YthabgdbhgcgemaaGreatDoorQZB
namespace Go.Proofs.YthabgdbhgcgemaaGreatDoor
set_option linter.unusedVariables false
set_option linter.unusedSimpArgs false
open Go
def placeC (s : SignedC) : Question := ⟨s.set.name, s.set.typ⟩
def uniqP (l : List SignedC) : Prop := (l.map placeC).Nodup
theorem uniqP_eq : ∀ {l : List SignedC} {x y : SignedC}, uniqP l → x ∈ l → y ∈ l → placeC x = placeC y → x = y
  | [], _, _, _, hx, _, _ => by cases hx
  | a :: l, x, y, h, hx, hy, e => by
    unfold uniqP at h
    rw [List.map_cons, List.nodup_cons] at h
    rcases List.mem_cons.1 hx with hx1 | hx1
    · rcases List.mem_cons.1 hy with hy1 | hy1
      · rw [hx1, hy1]
      · exact absurd (List.mem_map.2 ⟨y, hy1, by rw [← e, hx1]⟩) h.1
    · rcases List.mem_cons.1 hy with hy1 | hy1
      · exact absurd (List.mem_map.2 ⟨x, hx1, by rw [e, hy1]⟩) h.1
      · exact uniqP_eq (l := l) h.2 hx1 hy1 e
theorem uniqP_nodup {l : List SignedC} (h : uniqP l) : l.Nodup := by
  unfold uniqP at h
  exact (List.pairwise_map.1 h).imp fun h e => h (congrArg placeC e)
def dropD (a b : List SignedC) : List Question := (a.map placeC).filter fun q => decide (q ∉ b.map placeC)
def putD (a b : List SignedC) : List SignedC := b.filter fun s => decide (s ∉ a)
def stayD (a : List SignedC) (drop : List Question) (put : List SignedC) : List SignedC := a.filter fun s => decide (placeC s ∉ put.map placeC ∧ placeC s ∉ drop)
theorem mem_putD {a b : List SignedC} {x : SignedC} : x ∈ putD a b ↔ x ∈ b ∧ x ∉ a := by
  unfold putD; rw [List.mem_filter, decide_eq_true_iff]
theorem mem_dropD {a b : List SignedC} {q : Question} : q ∈ dropD a b ↔ q ∈ a.map placeC ∧ q ∉ b.map placeC := by
  unfold dropD; rw [List.mem_filter, decide_eq_true_iff]
theorem mem_stayD {a b : List SignedC} (ha : uniqP a) (hb : uniqP b) {x : SignedC} : x ∈ stayD a (dropD a b) (putD a b) ↔ x ∈ a ∧ x ∈ b := by
  unfold stayD
  rw [List.mem_filter, decide_eq_true_iff]
  constructor
  · rintro ⟨hx, h1, h2⟩
    refine ⟨hx, ?_⟩
    have h3 : placeC x ∈ b.map placeC := by
      rcases Classical.em (placeC x ∈ b.map placeC) with h | h
      · exact h
      · exact absurd (mem_dropD.2 ⟨List.mem_map.2 ⟨x, hx, rfl⟩, h⟩) h2
    obtain ⟨y, hy, e⟩ := List.mem_map.1 h3
    have hya : y ∈ a := by
      rcases Classical.em (y ∈ a) with h | h
      · exact h
      · exact absurd (List.mem_map.2 ⟨y, mem_putD.2 ⟨hy, h⟩, e⟩) h1
    rw [← uniqP_eq ha hya hx e]
    exact hy
  · rintro ⟨hx, hxb⟩
    refine ⟨hx, fun h => ?_, fun h => (mem_dropD.1 h).2 (List.mem_map.2 ⟨x, hxb, rfl⟩)⟩
    obtain ⟨y, hy, e⟩ := List.mem_map.1 h
    obtain ⟨h1, h2⟩ := mem_putD.1 hy
    rw [uniqP_eq hb h1 hxb e] at h2
    exact h2 hx
theorem delta_perm {a b : List SignedC} (ha : uniqP a) (hb : uniqP b) : (stayD a (dropD a b) (putD a b) ++ putD a b).Perm b := by
  have hna := uniqP_nodup ha
  have hnb := uniqP_nodup hb
  have h1 : (stayD a (dropD a b) (putD a b)).Nodup := by unfold stayD; exact hna.sublist List.filter_sublist
  have h2 : (putD a b).Nodup := by unfold putD; exact hnb.sublist List.filter_sublist
  refine (List.perm_ext_iff_of_nodup ?_ hnb).2 fun x => ?_
  · exact List.nodup_append.2 ⟨h1, h2, fun x hx y hy e => (mem_putD.1 hy).2 (e ▸ ((mem_stayD ha hb).1 hx).1)⟩
  · rw [List.mem_append, mem_stayD ha hb, mem_putD]
    constructor
    · rintro (h | h)
      · exact h.2
      · exact h.1
    · intro h
      rcases Classical.em (x ∈ a) with h1 | h1
      · exact .inl ⟨h1, h⟩
      · exact .inr ⟨h, h1⟩
theorem order_one {α : Type} {r : α → α → Prop} (hr : ∀ x y, r x y → ¬ r y x) : ∀ {l m : List α}, l.Perm m → l.Pairwise r → m.Pairwise r → l = m
  | [], m, h, _, _ => (List.nil_perm.1 h).symm
  | x :: l, [], h, _, _ => absurd h.length_eq (by simp)
  | x :: l, y :: m, h, h1, h2 => by
    obtain ⟨a1, a2⟩ := List.pairwise_cons.1 h1
    obtain ⟨b1, b2⟩ := List.pairwise_cons.1 h2
    have e : x = y := by
      rcases List.mem_cons.1 (h.mem_iff.1 (List.mem_cons_self ..)) with h3 | h3
      · exact h3
      · rcases List.mem_cons.1 (h.mem_iff.2 (List.mem_cons_self ..)) with h4 | h4
        · exact h4.symm
        · exact absurd (a1 y h4) (hr _ _ (b1 x h3))
    subst e
    rw [order_one hr (h.cons_inv) a2 b2]
end Go.Proofs.YthabgdbhgcgemaaGreatDoor
namespace Go.Proofs.YthabgdbhgcgemaaGreatDoor
set_option linter.unusedVariables false
set_option linter.unusedSimpArgs false
open Go
def stepJ (out : List (Int × Nat)) (x : Int × Nat) : List (Int × Nat) := match out.getLast? with
  | some y => if y.2 = x.2 then out else out ++ [x]
  | none => out ++ [x]
def joinJ (l : List (Int × Nat)) : List (Int × Nat) := l.foldl stepJ []
def curJ (l : List (Int × Nat)) (t : Int) : Option Nat := ((l.filter fun p => decide (p.1 ≤ t)).getLast?).map (·.2)
structure RelJ (done out : List (Int × Nat)) : Prop where
  cur : ∀ t, curJ out t = curJ done t
  last : (out.getLast?).map (·.2) = (done.getLast?).map (·.2)
  mem : ∀ p ∈ out, p ∈ done
theorem curJ_snoc (l : List (Int × Nat)) (x : Int × Nat) (t : Int) : curJ (l ++ [x]) t = if x.1 ≤ t then some x.2 else curJ l t := by
  unfold curJ
  rw [List.filter_append]
  by_cases h : x.1 ≤ t
  · rw [if_pos h, List.filter_cons_of_pos (by simpa using h), List.filter_nil, List.getLast?_append]; simp
  · rw [if_neg h, List.filter_cons_of_neg (by simpa using h), List.filter_nil, List.append_nil]
theorem relJ_step {done out : List (Int × Nat)} {x : Int × Nat} (r : RelJ done out) (h : ∀ p ∈ done, p.1 ≤ x.1) : RelJ (done ++ [x]) (stepJ out x) := by
  have hnew : RelJ (done ++ [x]) (out ++ [x]) := by
    refine ⟨fun t => by rw [curJ_snoc, curJ_snoc, r.cur], by simp, fun p hp => ?_⟩
    rcases List.mem_append.1 hp with hp | hp
    · exact List.mem_append_left _ (r.mem p hp)
    · exact List.mem_append_right _ hp
  unfold stepJ
  cases hl : out.getLast? with
  | none => exact hnew
  | some y =>
    simp only
    split
    · rename_i he
      refine ⟨fun t => ?_, ?_, fun p hp => List.mem_append_left _ (r.mem p hp)⟩
      · rw [curJ_snoc]
        split
        · rename_i ht
          have hf : out.filter (fun p => decide (p.1 ≤ t)) = out := by
            rw [List.filter_eq_self]
            intro p hp
            have := h p (r.mem p hp)
            exact decide_eq_true (by omega)
          unfold curJ
          rw [hf, hl]
          simp [he]
        · exact r.cur t
      · rw [hl]; simp [he]
    · exact hnew
theorem relJ_fold : ∀ (l : List (Int × Nat)) {done out : List (Int × Nat)}, RelJ done out → (done ++ l).Pairwise (fun a b => a.1 ≤ b.1) → RelJ (done ++ l) (l.foldl stepJ out)
  | [], done, out, r, _ => by rw [List.append_nil]; exact r
  | x :: l, done, out, r, h => by
    have e : done ++ x :: l = (done ++ [x]) ++ l := by rw [List.append_assoc]; rfl
    rw [e] at h ⊢
    rw [List.foldl_cons]
    refine relJ_fold l (relJ_step r fun p hp => ?_) h
    exact (List.pairwise_append.1 (List.pairwise_append.1 h).1).2.2 p hp x (List.mem_singleton.2 rfl)
theorem joinJ_cur {l : List (Int × Nat)} (h : l.Pairwise (fun a b => a.1 ≤ b.1)) : RelJ l (joinJ l) := by
  have := relJ_fold l (done := []) (out := []) ⟨fun _ => rfl, rfl, fun p hp => hp⟩ (by rw [List.nil_append]; exact h)
  rw [List.nil_append] at this
  exact this
theorem curJ_cons (x : Int × Nat) (l : List (Int × Nat)) (t : Int) : curJ (x :: l) t = (curJ l t).or (if x.1 ≤ t then some x.2 else none) := by
  unfold curJ
  by_cases h : x.1 ≤ t
  · rw [List.filter_cons_of_pos (by simpa using h), if_pos h, List.getLast?_cons]
    cases (l.filter fun p => decide (p.1 ≤ t)).getLast? <;> rfl
  · rw [List.filter_cons_of_neg (by simpa using h), if_neg h]
    cases ((l.filter fun p => decide (p.1 ≤ t)).getLast?).map (·.2) <;> rfl
def bring (g : Int → Option Nat) (ts : List Int) : List (Int × Nat) := ts.filterMap fun t => (g t).map fun v => (t, v)
theorem pull_cur (g : Int → Option Nat) (t : Int) : ∀ (ts : List Int) (s : Option Nat), (ts.filter fun u => decide (u ≤ t)).foldl (fun s u => (g u).or s) s = (curJ (bring g ts) t).or s
  | [], s => by rfl
  | u :: ts, s => by
    have ih := pull_cur g t ts
    have e : bring g (u :: ts) = match g u with | some v => (u, v) :: bring g ts | none => bring g ts := by
      unfold bring
      rw [List.filterMap_cons]
      cases g u <;> rfl
    rw [e]
    by_cases h : u ≤ t
    · rw [List.filter_cons_of_pos (by simpa using h), List.foldl_cons, ih]
      cases hg : g u with
      | none => rfl
      | some v =>
        simp only
        rw [curJ_cons, if_pos h]
        cases curJ (bring g ts) t <;> rfl
    · rw [List.filter_cons_of_neg (by simpa using h), ih]
      cases hg : g u with
      | none => rfl
      | some v =>
        simp only
        rw [curJ_cons, if_neg h]
        cases curJ (bring g ts) t <;> rfl
theorem bring_order {g : Int → Option Nat} {ts : List Int} (h : ts.Pairwise (· ≤ ·)) : (bring g ts).Pairwise fun a b => a.1 ≤ b.1 := by
  unfold bring
  rw [List.pairwise_filterMap]
  refine h.imp fun {a b} hab x hx y hy => ?_
  obtain ⟨v, _, rfl⟩ := Option.map_eq_some_iff.1 hx
  obtain ⟨u, _, rfl⟩ := Option.map_eq_some_iff.1 hy
  exact hab
theorem serves_pulls {g : Int → Option Nat} {ts : List Int} (h : ts.Pairwise (· ≤ ·)) (t : Int) : curJ (joinJ (bring g ts)) t = (ts.filter fun u => decide (u ≤ t)).foldl (fun s u => (g u).or s) none := by
  rw [pull_cur, (joinJ_cur (bring_order h)).cur, Option.or_none]
def untilJ : List (Int × Nat) → Int → List (Int × Int × Nat)
  | [], _ => []
  | [x], e => [(x.1, e, x.2)]
  | x :: y :: l, e => (x.1, y.1, x.2) :: untilJ (y :: l) e
theorem curJ_none {l : List (Int × Nat)} {t : Int} (h : ∀ p ∈ l, t < p.1) : curJ l t = none := by
  unfold curJ
  have : l.filter (fun p => decide (p.1 ≤ t)) = [] := by
    rw [List.filter_eq_nil_iff]
    intro p hp
    have := h p hp
    simp only [decide_eq_true_eq]
    omega
  rw [this]; rfl
theorem serving_cur {t e : Int} (ht : t < e) : ∀ {l : List (Int × Nat)}, l.Pairwise (fun a b => a.1 ≤ b.1) → ((untilJ l e).find? fun s => decide (s.1 ≤ t) && decide (t < s.2.1)).map (·.2.2) = curJ l t
  | [], _ => rfl
  | [x], _ => by
    rw [curJ_cons]
    unfold untilJ
    by_cases h : x.1 ≤ t
    · rw [List.find?_cons_of_pos (by simp [h, ht]), if_pos h]; rfl
    · rw [List.find?_cons_of_neg (by simp [h]), if_neg h]; rfl
  | x :: y :: l, hp => by
    obtain ⟨h1, h2⟩ := List.pairwise_cons.1 hp
    have ih := serving_cur ht (l := y :: l) h2
    have hxy := h1 y (List.mem_cons_self ..)
    have hle : ∀ p ∈ y :: l, y.1 ≤ p.1 := fun p hp => by
      rcases List.mem_cons.1 hp with rfl | hp
      · exact Int.le_refl _
      · exact (List.pairwise_cons.1 h2).1 p hp
    rw [curJ_cons]
    unfold untilJ
    by_cases h : x.1 ≤ t
    · rw [if_pos h]
      by_cases hy : t < y.1
      · rw [List.find?_cons_of_pos (by simp [h, hy]), curJ_none fun p hp => by have := hle p hp; omega]; rfl
      · rw [List.find?_cons_of_neg (by simp [hy]), ih, curJ_cons y, if_pos (by omega)]
        cases curJ l t <;> rfl
    · rw [if_neg h, List.find?_cons_of_neg (by simp [h]), ih, Option.or_none]
end Go.Proofs.YthabgdbhgcgemaaGreatDoor
namespace Go.Proofs.YthabgdbhgcgemaaGreatDoor
set_option linter.unusedVariables false
set_option linter.unusedSimpArgs false
open Go
structure PollV where
  host : Int
  at_ : Int
  lost : Bool
deriving DecidableEq
def startC (z : ZoneC) : Option SignedC := z.sets.find? fun s => decide (s.set.name = z.apex) && decide (s.set.typ = 4)
def serialC (z : ZoneC) : Int := match startC z with
  | some s => match s.set.data with
    | d :: _ => d.n
    | [] => 0
  | none => 0
def beforeS (a b : Int) : Bool := decide (1 ≤ (b - a + 65536).tmod 65536) && decide ((b - a + 65536).tmod 65536 ≤ 32767)
theorem beforeS_ne {a b : Int} (h : beforeS a b = true) : a ≠ b := by
  rintro rfl
  unfold beforeS at h
  rw [show a - a + 65536 = 65536 by omega] at h
  exact absurd h (by decide)
def insI (x : Int) : List Int → List Int
  | [] => [x]
  | y :: l => if x ≤ y then x :: y :: l else y :: insI x l
def sortI : List Int → List Int
  | [] => []
  | x :: l => insI x (sortI l)
theorem insI_perm (x : Int) : ∀ l : List Int, (insI x l).Perm (x :: l)
  | [] => .refl _
  | y :: l => by
    unfold insI
    split
    · exact .refl _
    · exact ((insI_perm x l).cons y).trans (.swap x y l)
theorem sortI_perm : ∀ l : List Int, (sortI l).Perm l
  | [] => .refl _
  | x :: l => (insI_perm x _).trans ((sortI_perm l).cons x)
theorem insI_ord (x : Int) : ∀ {l : List Int}, l.Pairwise (· ≤ ·) → (insI x l).Pairwise (· ≤ ·)
  | [], _ => List.pairwise_singleton ..
  | y :: l, h => by
    obtain ⟨h1, h2⟩ := List.pairwise_cons.1 h
    unfold insI
    split
    · rename_i hxy
      refine List.pairwise_cons.2 ⟨fun z hz => ?_, h⟩
      rcases List.mem_cons.1 hz with rfl | hz
      · exact hxy
      · have := h1 z hz; omega
    · rename_i hxy
      refine List.pairwise_cons.2 ⟨fun z hz => ?_, insI_ord x h2⟩
      rcases List.mem_cons.1 ((insI_perm x l).mem_iff.1 hz) with rfl | hz
      · omega
      · exact h1 z hz
theorem sortI_ord : ∀ l : List Int, (sortI l).Pairwise (· ≤ ·)
  | [] => .nil
  | x :: l => insI_ord x (sortI_ord l)
theorem eq_of_ordI : ∀ {l m : List Int}, l.Perm m → l.Pairwise (· ≤ ·) → m.Pairwise (· ≤ ·) → l = m
  | [], m, h, _, _ => (List.nil_perm.1 h).symm
  | x :: l, [], h, _, _ => absurd h.length_eq (by simp)
  | x :: l, y :: m, h, h1, h2 => by
    obtain ⟨a1, a2⟩ := List.pairwise_cons.1 h1
    obtain ⟨b1, b2⟩ := List.pairwise_cons.1 h2
    have e : x = y := by
      rcases List.mem_cons.1 (h.mem_iff.1 (List.mem_cons_self ..)) with h3 | h3
      · exact h3
      · rcases List.mem_cons.1 (h.mem_iff.2 (List.mem_cons_self ..)) with h4 | h4
        · exact h4.symm
        · have := a1 y h4; have := b1 x h3; omega
    subst e
    rw [eq_of_ordI (h.cons_inv) a2 b2]
theorem eq_sortI {l m : List Int} (h : l.Perm m) (ho : l.Pairwise (· ≤ ·)) : l = sortI m := eq_of_ordI (h.trans (sortI_perm m).symm) ho (sortI_ord m)
theorem sortI_filter (p : Int → Bool) (l : List Int) : (sortI l).filter p = sortI (l.filter p) :=
  eq_sortI ((sortI_perm l).filter p) ((sortI_ord l).sublist List.filter_sublist)
def newK (ats : List Int) (t : Int) : Option Nat := match ats.countP (fun a => decide (a ≤ t)) with
  | 0 => none
  | k + 1 => some k
theorem newK_lt {ats : List Int} {t : Int} {k : Nat} (h : newK ats t = some k) : k < ats.length := by
  have := List.countP_le_length (p := fun a => decide (a ≤ t)) (l := ats)
  unfold newK at h
  split at h
  · cases h
  · cases h; omega
theorem newK_mono {ats : List Int} {t u : Int} (htu : t ≤ u) {k : Nat} (h : newK ats t = some k) : ∃ j, newK ats u = some j ∧ k ≤ j := by
  have h1 : ats.countP (fun a => decide (a ≤ t)) ≤ ats.countP (fun a => decide (a ≤ u)) :=
    List.countP_mono_left fun a _ ha => decide_eq_true (by have := of_decide_eq_true ha; omega)
  unfold newK at h ⊢
  split at h
  · cases h
  · rename_i k' e
    cases h
    split
    · omega
    · rename_i j e'
      exact ⟨j, rfl, by omega⟩
theorem take_count {α : Type} (f : α → Int) {l : List α} (t : Int) (h : l.Pairwise fun a b => f a < f b) : l.filter (fun a => decide (f a ≤ t)) = l.take ((l.map f).countP fun a => decide (a ≤ t)) := by
  induction l with
  | nil => rfl
  | cons x l ih =>
    obtain ⟨h1, h2⟩ := List.pairwise_cons.1 h
    rw [List.map_cons]
    by_cases hx : f x ≤ t
    · rw [List.filter_cons_of_pos (by simpa using hx), List.countP_cons_of_pos (by simpa using hx), List.take_succ_cons, ih h2]
    · have hno : ∀ y ∈ l, ¬ f y ≤ t := fun y hy => by have := h1 y hy; omega
      rw [List.filter_cons_of_neg (by simpa using hx), List.countP_cons_of_neg (by simpa using hx)]
      have e1 : (l.map f).countP (fun a => decide (a ≤ t)) = 0 := List.countP_eq_zero.2 fun y hy => by
        obtain ⟨z, hz, rfl⟩ := List.mem_map.1 hy
        simpa using hno z hz
      have e2 : l.filter (fun a => decide (f a ≤ t)) = [] := List.filter_eq_nil_iff.2 fun y hy => by simpa using hno y hy
      rw [e1, e2, List.take_zero]
def timesH (ats : List Int) (primary : Int) (polls : List PollV) (h : Int) : List Int :=
  if h = primary then ats else (polls.filter fun p => decide (p.host = h) && !p.lost).map (·.at_)
def servesH (ats : List Int) (primary : Int) (polls : List PollV) (fin h : Int) : List (Int × Int × Nat) := untilJ (joinJ (bring (newK ats) (sortI (timesH ats primary polls h)))) fin
def tagH (h : Int) (l : List (Int × Int × Nat)) : List (Int × Int × Int × Nat) := l.map fun s => (h, s.1, s.2.1, s.2.2)
def allServes (ats : List Int) (primary : Int) (polls : List PollV) (fin : Int) (n : Nat) : List (Int × Int × Int × Nat) := (List.range n).flatMap fun h : Nat => tagH (h : Int) (servesH ats primary polls fin (h : Int))
theorem stepJ_sub {out done : List (Int × Nat)} {x : Int × Nat} (h : out.Sublist done) : (stepJ out x).Sublist (done ++ [x]) := by
  unfold stepJ
  split
  · split
    · exact h.trans (List.sublist_append_left _ _)
    · exact h.append (.refl _)
  · exact h.append (.refl _)
theorem foldJ_sub : ∀ (l : List (Int × Nat)) {out done : List (Int × Nat)}, out.Sublist done → (l.foldl stepJ out).Sublist (done ++ l)
  | [], out, done, h => by rw [List.append_nil]; exact h
  | x :: l, out, done, h => by
    have := foldJ_sub l (stepJ_sub (x := x) h)
    rw [List.append_assoc] at this
    exact this
theorem joinJ_sub (l : List (Int × Nat)) : (joinJ l).Sublist l := foldJ_sub l (out := []) (done := []) (.refl _)
theorem untilJ_ver : ∀ {l : List (Int × Nat)} {e : Int} {s : Int × Int × Nat}, s ∈ untilJ l e → ∃ p ∈ l, p.2 = s.2.2 ∧ p.1 = s.1
  | [], _, _, h => by cases h
  | [x], e, s, h => by
    unfold untilJ at h
    rw [List.mem_singleton.1 h]
    exact ⟨x, List.mem_singleton.2 rfl, rfl, rfl⟩
  | x :: y :: l, e, s, h => by
    unfold untilJ at h
    rcases List.mem_cons.1 h with rfl | h
    · exact ⟨x, List.mem_cons_self .., rfl, rfl⟩
    · obtain ⟨p, hp, e2⟩ := untilJ_ver h
      exact ⟨p, List.mem_cons_of_mem _ hp, e2⟩
theorem untilJ_len : ∀ (l : List (Int × Nat)) (e : Int), (untilJ l e).length = l.length
  | [], _ => rfl
  | [_], _ => rfl
  | x :: y :: l, e => by unfold untilJ; rw [List.length_cons, untilJ_len (y :: l) e]; rfl
theorem mem_bring {g : Int → Option Nat} {ts : List Int} {p : Int × Nat} (h : p ∈ bring g ts) : p.1 ∈ ts ∧ g p.1 = some p.2 := by
  unfold bring at h
  obtain ⟨t, ht, e⟩ := List.mem_filterMap.1 h
  obtain ⟨v, hv, rfl⟩ := Option.map_eq_some_iff.1 e
  exact ⟨ht, hv⟩
theorem serves_ver {ats : List Int} {primary fin h : Int} {polls : List PollV} {s : Int × Int × Nat} (hs : s ∈ servesH ats primary polls fin h) : s.2.2 < ats.length := by
  obtain ⟨p, hp, e, _⟩ := untilJ_ver hs
  rw [← e]
  exact newK_lt (mem_bring ((joinJ_sub _).subset hp)).2
def atH (h t : Int) (s : Int × Int × Int × Nat) : Bool := decide (s.1 = h) && (decide (s.2.1 ≤ t) && decide (t < s.2.2.1))
theorem find_tag_ne {h g t : Int} (hne : g ≠ h) (l : List (Int × Int × Nat)) : (tagH g l).find? (atH h t) = none := by
  rw [List.find?_eq_none]
  intro s hs
  obtain ⟨q, _, rfl⟩ := List.mem_map.1 hs
  unfold atH
  simp [hne]
theorem find_tag {h t : Int} : ∀ l : List (Int × Int × Nat), ((tagH h l).find? (atH h t)).map (·.2.2.2) = (l.find? fun s => decide (s.1 ≤ t) && decide (t < s.2.1)).map (·.2.2)
  | [] => rfl
  | x :: l => by
    have ih := find_tag (h := h) (t := t) l
    unfold tagH at ih ⊢
    rw [List.map_cons]
    by_cases hx : (decide (x.1 ≤ t) && decide (t < x.2.1)) = true
    · rw [List.find?_cons_of_pos (by unfold atH; simpa using hx), List.find?_cons_of_pos (p := fun s : Int × Int × Nat => decide (s.1 ≤ t) && decide (t < s.2.1)) hx]; rfl
    · rw [List.find?_cons_of_neg (by unfold atH; simpa using hx), List.find?_cons_of_neg (p := fun s : Int × Int × Nat => decide (s.1 ≤ t) && decide (t < s.2.1)) hx, ih]
theorem find_all {ats : List Int} {primary fin t : Int} {polls : List PollV} {n : Nat} {h : Nat} (hh : h < n) :
    ((allServes ats primary polls fin n).find? (atH h t)).map (·.2.2.2) = ((servesH ats primary polls fin h).find? fun s => decide (s.1 ≤ t) && decide (t < s.2.1)).map (·.2.2) := by
  induction n with
  | zero => omega
  | succ n ih =>
    unfold allServes at ih ⊢
    rw [List.range_succ, List.flatMap_append, List.find?_append]
    have hone : ∀ f : Nat → List (Int × Int × Int × Nat), [n].flatMap f = f n := fun f => by simp
    rw [hone]
    by_cases e : h = n
    · subst e
      have hno : ((List.range h).flatMap fun g : Nat => tagH g (servesH ats primary polls fin g)).find? (atH h t) = none := by
        rw [List.find?_eq_none]
        intro s hs
        obtain ⟨g, hg, hs⟩ := List.mem_flatMap.1 hs
        have hg := List.mem_range.1 hg
        have := List.find?_eq_none.1 (find_tag_ne (h := h) (g := g) (t := t) (by omega) (servesH ats primary polls fin g)) s hs
        exact this
      rw [hno, Option.none_or, find_tag]
    · rw [find_tag_ne (by omega), Option.or_none]
      exact ih (by omega)
def pullsK (ats : List Int) (ts : List Int) : Option Nat := ts.foldl (fun s u => (newK ats u).or s) none
def pollsTo (polls : List PollV) (h t : Int) : List Int := (polls.filter fun p => decide (p.host = h) && (decide (p.at_ ≤ t) && !p.lost)).map (·.at_)
theorem spread_law {ats : List Int} {primary fin t : Int} {polls : List PollV} {h : Nat} (hh : h < 64) (hp : (h : Int) ≠ primary) (ht : t < fin) :
    ((allServes ats primary polls fin 64).find? (atH h t)).map (·.2.2.2) = pullsK ats (sortI (pollsTo polls h t)) := by
  rw [find_all hh]
  unfold servesH
  have ho := bring_order (g := newK ats) (sortI_ord (timesH ats primary polls h))
  rw [serving_cur ht (ho.sublist (joinJ_sub _)), serves_pulls (sortI_ord _), sortI_filter]
  unfold pullsK
  congr 2
  unfold timesH pollsTo
  rw [if_neg hp, List.filter_map, List.filter_filter]
  congr 1
  refine List.filter_congr fun p _ => ?_
  simp only [Function.comp]
  cases decide (p.host = (h : Int)) <;> cases p.lost <;> simp
end Go.Proofs.YthabgdbhgcgemaaGreatDoor
namespace Go.Proofs.YthabgdbhgcgemaaGreatDoor
set_option linter.unusedVariables false
set_option linter.unusedSimpArgs false
open Go Go.RowKit
open Enc (enc)
def ZoneV.nil : ZoneV := ⟨[], Slc.nil _⟩
structure VersionV where
  at_ : Int
  zone : ZoneV
instance : Enc VersionV where
  size := 3
  enc v := [intV v.at_, strV v.zone.apex, .slice v.zone.sets.A v.zone.sets.len v.zone.sets.cap]
  good H v := I64 v.at_ ∧ Enc.good H v.zone
  len _ := rfl
  mono hle h := ⟨h.1, Enc.mono hle h.2⟩
  one _ := rfl
  pos := by decide
instance : Enc PollV where
  size := 3
  enc p := [intV p.host, intV p.at_, .bool p.lost]
  good _ p := I64 p.host ∧ I64 p.at_
  len _ := rfl
  mono _ h := h
  one _ := rfl
  pos := by decide
structure DeltaV where
  apex : Bytes
  frm : Int
  to : Int
  drop : Slc Question
  put : Slc Signed
instance : Enc DeltaV where
  size := 5
  enc d := [strV d.apex, intV d.frm, intV d.to, .slice d.drop.A d.drop.len d.drop.cap, .slice d.put.A d.put.len d.put.cap]
  good H d := LenOk d.apex ∧ I64 d.frm ∧ I64 d.to ∧ d.drop.Good H ∧ d.put.Good H
  len _ := rfl
  mono hle h := ⟨h.1, h.2.1, h.2.2.1, h.2.2.2.1.mono hle, h.2.2.2.2.mono hle⟩
  one _ := rfl
  pos := by decide
structure OfferV where
  full : Bool
  zone : ZoneV
  deltas : Slc DeltaV
instance : Enc OfferV where
  size := 4
  enc o := [.bool o.full, strV o.zone.apex, .slice o.zone.sets.A o.zone.sets.len o.zone.sets.cap, .slice o.deltas.A o.deltas.len o.deltas.cap]
  good H o := Enc.good H o.zone ∧ o.deltas.Good H
  len _ := rfl
  mono hle h := ⟨Enc.mono hle h.1, h.2.mono hle⟩
  one _ := rfl
  pos := by decide
structure SecV where
  has : Bool
  zone : ZoneV
  seen : Int
instance : Enc SecV where
  size := 4
  enc s := [.bool s.has, strV s.zone.apex, .slice s.zone.sets.A s.zone.sets.len s.zone.sets.cap, intV s.seen]
  good H s := Enc.good H s.zone ∧ I64 s.seen
  len _ := rfl
  mono hle h := ⟨Enc.mono hle h.1, h.2⟩
  one _ := rfl
  pos := by decide
structure StrV where
  frm : Int
  til : Int
  ver : Int
deriving DecidableEq
instance : Enc StrV where
  size := 3
  enc s := [intV s.frm, intV s.til, intV s.ver]
  good _ s := I64 s.frm ∧ I64 s.til ∧ I64 s.ver
  len _ := rfl
  mono _ h := h
  one _ := rfl
  pos := by decide
end Go.Proofs.YthabgdbhgcgemaaGreatDoor
