/- Plain laws of trust: a chain of zones below each other. -/
import Derived.Test.YtfbhcemlnojejaaDoorRTLaw
namespace Go.Proofs.YtfbhcemlnojejaaDoor
set_option linter.unusedVariables false
set_option linter.unusedSimpArgs false
open Go
set_option maxRecDepth 20000

theorem lab_nodot {x : Bytes} (h : isLab x = true) : ∀ c ∈ x, c ≠ 46 := by
  have h : Word 45 12 x := of_decide_eq_true h
  rintro c hc rfl
  obtain ⟨k, hk, he⟩ := List.mem_iff_getElem.1 hc
  have h3 := h.2.2 k hk
  unfold WordAt at h3
  rw [List.getD_eq_getElem?_getD, List.getElem?_eq_getElem hk, he] at h3
  simp at h3
theorem splitDots_joinD : ∀ {l : List Bytes}, l ≠ [] → (∀ x ∈ l, ∀ c ∈ x, c ≠ 46) → splitDots (joinD l) = l
  | [], h, _ => absurd rfl h
  | [x], _, h => splitDots_nodot (h x (List.mem_singleton_self x))
  | x :: y :: r, _, h => by
    rw [joinD_cons (List.cons_ne_nil y r), splitDots_mid, splitDots_joinD (List.cons_ne_nil y r) (fun z hz => h z (List.mem_cons_of_mem _ hz)), splitDots_nodot (h x (List.mem_cons_self ..))]
    rfl
def glueC (l : List Bytes) : Bytes := if l = [] then [46] else joinD l
def labsOK (l : List Bytes) : Bool := (l.headD [97] = [42] || isLab (l.headD [97])) && l.tail.all isLab
def joinC (l : List Bytes) : Bytes × Int := if labsOK l && decide (l.length ≤ 8) && decide ((glueC l).length ≤ 60) then (glueC l, 0) else ([], 11)
theorem labs_nodot {l : List Bytes} (h : labsOK l = true) : ∀ x ∈ l, ∀ c ∈ x, c ≠ 46 := by
  cases l with
  | nil => intro x hx; cases hx
  | cons y r =>
    unfold labsOK at h
    simp only [List.headD_cons, List.tail_cons, Bool.and_eq_true, Bool.or_eq_true, decide_eq_true_eq] at h
    intro x hx
    rcases List.mem_cons.1 hx with rfl | hx
    · rcases h.1 with h | h
      · rw [of_decide_eq_true h]
        intro c hc; simp at hc; rw [hc]; decide
      · exact lab_nodot h
    · exact lab_nodot (List.all_eq_true.1 h.2 x hx)
theorem join_parts {l : List Bytes} (h : labsOK l = true) : parts (glueC l) = l := by
  unfold glueC
  by_cases hl : l = []
  · subst hl; rfl
  · rw [if_neg hl]
    have hs := splitDots_joinD hl (labs_nodot h)
    unfold parts
    by_cases hd : joinD l = [46]
    · rw [hd] at hs
      rw [← hs] at h
      exact absurd h (by decide)
    · rw [if_neg hd, hs]
theorem join_name {l : List Bytes} (h : (joinC l).2 = 0) : nameOK (joinC l).1 = true ∧ parts (joinC l).1 = l ∧ (joinC l).1 = glueC l := by
  unfold joinC at h ⊢
  split at h
  · rename_i hc
    rw [if_pos hc]
    simp only [Bool.and_eq_true, decide_eq_true_eq] at hc
    obtain ⟨⟨hc1, hc2⟩, hc3⟩ := hc
    refine ⟨?_, join_parts hc1, rfl⟩
    by_cases hl : l = []
    · subst hl; decide
    · simp only
      unfold glueC at hc3 ⊢
      rw [if_neg hl] at hc3 ⊢
      have hs := splitDots_joinD hl (labs_nodot hc1)
      unfold nameOK
      rw [hs]
      obtain ⟨x, r, rfl⟩ := List.exists_cons_of_ne_nil hl
      unfold labsOK at hc1
      simp only [List.headD_cons, List.tail_cons, Bool.and_eq_true, Bool.or_eq_true, decide_eq_true_eq] at hc1 ⊢
      exact .inr ⟨⟨⟨hc3, hc2⟩, hc1.1.symm⟩, hc1.2⟩
  · cases h
/-- Zones below each other, from the root on. -/
structure Zones (zs : List Bytes) : Prop where
  name : ∀ i (h : i < zs.length), nameOK zs[i] = true
  tame : ∀ i (h : i < zs.length), wild zs[i] = false
  deep : ∀ i (h : i < zs.length), (parts zs[i]).length = i
  labs : ∀ i (h : i < zs.length), (parts zs[i]).all isLab = true
  under : ∀ i (h : i + 1 < zs.length), inN zs[i + 1] (zs[i]'(by omega)) = true
theorem zones_root : Zones [[46]] where
  name i h := by obtain rfl : i = 0 := by simpa using h
                 rfl
  tame i h := by obtain rfl : i = 0 := by simpa using h
                 rfl
  deep i h := by obtain rfl : i = 0 := by simpa using h
                 rfl
  labs i h := by obtain rfl : i = 0 := by simpa using h
                 rfl
  under i h := by simp at h
theorem zones_up {zs : List Bytes} (hz : Zones zs) {z s : Bytes} (hl : zs.getLast? = some z) (h : (joinC (s :: parts z)).2 = 0) (hs : s ≠ [42]) : Zones (zs ++ [(joinC (s :: parts z)).1]) := by
  obtain ⟨h1, h2, h3⟩ := join_name h
  have hne : zs ≠ [] := by rintro rfl; cases hl
  have hpos := List.length_pos_iff.2 hne
  have hzl : z = zs[zs.length - 1]'(by omega) := by
    rw [List.getLast?_eq_getElem?, List.getElem?_eq_getElem (by omega)] at hl
    exact (Option.some.inj hl).symm
  have hlab : isLab s = true := by
    unfold joinC at h
    split at h
    · rename_i hc
      simp only [Bool.and_eq_true, decide_eq_true_eq] at hc
      have := hc.1.1
      unfold labsOK at this
      simp only [List.headD_cons, List.tail_cons, Bool.and_eq_true, Bool.or_eq_true, decide_eq_true_eq] at this
      exact this.1.resolve_left (fun h => hs (of_decide_eq_true h))
    · cases h
  generalize (joinC (s :: parts z)).1 = y at *
  have hget : ∀ i (hi : i < (zs ++ [y]).length), (∃ h : i < zs.length, (zs ++ [y])[i] = zs[i]) ∨ (i = zs.length ∧ (zs ++ [y])[i] = y) := fun i hi => by
    by_cases hlt : i < zs.length
    · exact .inl ⟨hlt, List.getElem_append_left hlt⟩
    · have : i = zs.length := by rw [List.length_append, List.length_singleton] at hi; omega
      subst this
      exact .inr ⟨rfl, by simp⟩
  constructor
  · intro i hi
    rcases hget i hi with ⟨h, e⟩ | ⟨_, e⟩ <;> rw [e]
    · exact hz.name i h
    · exact h1
  · intro i hi
    rcases hget i hi with ⟨h, e⟩ | ⟨_, e⟩ <;> rw [e]
    · exact hz.tame i h
    · obtain ⟨c, r, rfl, hc⟩ := lab_head hlab
      rw [h3]
      unfold glueC
      rw [if_neg (by simp), joinD_head]
      unfold wild
      simp [hc]
  · intro i hi
    rcases hget i hi with ⟨h, e⟩ | ⟨h, e⟩ <;> rw [e]
    · exact hz.deep i h
    · rw [h2, List.length_cons, hzl, hz.deep]
      omega
  · intro i hi
    rcases hget i hi with ⟨h, e⟩ | ⟨h, e⟩ <;> rw [e]
    · exact hz.labs i h
    · rw [h2, List.all_cons, hlab, hzl, hz.labs]
      rfl
  · intro i hi
    have hi' : i < zs.length := by rw [List.length_append, List.length_singleton] at hi; omega
    rw [List.getElem_append_left hi']
    rcases hget (i + 1) hi with ⟨h, e⟩ | ⟨h, e⟩ <;> rw [e]
    · exact hz.under i h
    · unfold inN
      rw [h2, hzl]
      have : i = zs.length - 1 := by omega
      subst this
      exact decide_eq_true (List.suffix_cons _ _)
section
variable {zs : List Bytes} (hz : Zones zs)
include hz
theorem Zones.inj {i j : Nat} (hi : i < zs.length) (hj : j < zs.length) (h : zs[i] = zs[j]) : i = j := by
  have h1 := hz.deep i hi
  have h2 := hz.deep j hj
  rw [h] at h1
  omega
theorem Zones.root (h0 : 0 < zs.length) : zs[0] = [46] := by
  have h := List.eq_nil_of_length_eq_zero (hz.deep 0 h0)
  unfold parts at h
  split at h
  · assumption
  · exact absurd h (splitDots_ne _)
theorem Zones.notRoot {i : Nat} (hi : i < zs.length) (h : 0 < i) : zs[i] ≠ [46] := by
  intro he
  have h1 := hz.deep i hi
  rw [he] at h1
  simp [parts] at h1
  omega
end
def wKey (i : Nat) : KeyC := ⟨(i : Int) + 1, 1 + ((i % 3 : Nat) : Int)⟩
def wDatum (i : Nat) : Datum := ⟨[], (i : Int) + 1, 1 + ((i % 3 : Nat) : Int)⟩
def wSet (z : Bytes) (t : Int) (i : Nat) : SetC := ⟨z, t, 0, [wDatum i]⟩
/-- The key set of a zone, signed by its own key; its anchor set, signed by the key of the zone above. -/
def wK (zs : List Bytes) (a b : Int) (i : Nat) : SignedC := ⟨wSet (zs.getD i []) 7 i, [(signC (wSet (zs.getD i []) 7 i) (zs.getD i []) (wKey i) a b).1]⟩
def wA (zs : List Bytes) (a b : Int) (i : Nat) : SignedC := ⟨wSet (zs.getD i []) 6 i, [(signC (wSet (zs.getD i []) 6 i) (zs.getD (i - 1) []) (wKey (i - 1)) a b).1]⟩
theorem wSet_ok {z : Bytes} {t : Int} {i : Nat} (hn : nameOK z = true) (hw : wild z = false) (ht : t = 6 ∨ t = 7) (hi : i < 100) : setOK (wSet z t i) = true := by
  rw [setOK_eq]
  unfold headOK wSet
  have hd : datumOK t (wDatum i) = true := by
    rcases ht with rfl | rfl
    · rw [datumOK_6]; unfold keyOK wDatum; simp; omega
    · rw [datumOK_7]; unfold keyOK wDatum; simp; omega
  simp only [List.all_cons, hd, List.all_nil, chain, Bool.and_true, hn, hw]
  rcases ht with rfl | rfl <;> simp
theorem wKey_ok {i : Nat} (hi : i < 100) : sKeyOK (wKey i) = true := by
  unfold sKeyOK wKey
  simp
  omega
theorem sign_go {s : SetC} {zone : Bytes} {k : KeyC} {a b : Int} (h1 : setOK s = true) (h2 : sKeyOK k = true) (h3 : windowOK a b = true) (h4 : nameOK zone = true) (h5 : wild zone = false) (h6 : inN s.name zone = true) : signC s zone k a b = (⟨zone, k.n, k.alg, a, b, sumC s zone k a b⟩, 0) := by
  unfold signC
  rw [if_neg (by simp [h1, h2, h3, h4, h5, h6])]
section
variable {zs : List Bytes} {a b : Int} (hz : Zones zs) (hlen : zs.length ≤ 6) (hwin : windowOK a b = true)
include hz hlen hwin
theorem wK_sign {i : Nat} (hi : i < zs.length) : signC (wSet zs[i] 7 i) zs[i] (wKey i) a b = (⟨zs[i], (wKey i).n, (wKey i).alg, a, b, sumC (wSet zs[i] 7 i) zs[i] (wKey i) a b⟩, 0) :=
  sign_go (wSet_ok (hz.name i hi) (hz.tame i hi) (.inr rfl) (by omega)) (wKey_ok (by omega)) hwin (hz.name i hi) (hz.tame i hi) (in_refl _)
theorem wA_sign {i : Nat} (hi : i + 1 < zs.length) : signC (wSet zs[i + 1] 6 (i + 1)) (zs[i]'(by omega)) (wKey i) a b = (⟨zs[i]'(by omega), (wKey i).n, (wKey i).alg, a, b, sumC (wSet zs[i + 1] 6 (i + 1)) (zs[i]'(by omega)) (wKey i) a b⟩, 0) :=
  sign_go (wSet_ok (hz.name _ hi) (hz.tame _ hi) (.inl rfl) (by omega)) (wKey_ok (by omega)) hwin (hz.name i _) (hz.tame i _) (hz.under i hi)
variable {t d : Int} (hwh : whenOK t d = true) (h1 : a ≤ t - d) (h2 : t + d ≤ b)
omit hz hlen hwin in
include hwh h1 h2 in
theorem wSigned {s : SetC} {zone : Bytes} {k : KeyC} (h : signC s zone k a b = (⟨zone, k.n, k.alg, a, b, sumC s zone k a b⟩, 0)) : signedBy ⟨s, [(signC s zone k a b).1]⟩ zone [k] t d = true := by
  have hc := check_own (s := s) (zone := zone) (k := k) (a := a) (b := b) (by rw [h])
  unfold signedBy
  simp only [List.any_cons, List.any_nil, hc, hwh, Bool.or_false, Bool.and_true, Bool.true_and]
  rw [h]
  unfold inTime
  simp [h1, h2]
include hwh h1 h2
theorem wMatch {i : Nat} (hi : i < zs.length) : matches_ (wSet zs[i] 6 i) (wK zs a b i) t d = true := by
  have hg : zs.getD i [] = zs[i] := by rw [List.getD_eq_getElem?_getD, List.getElem?_eq_getElem hi]; rfl
  have hs := wK_sign hz hlen hwin hi
  have hb : both (wSet zs[i] 6 i) (wK zs a b i).set = [wKey i] := by
    unfold both wK wSet keysOf wDatum wKey
    simp
  unfold matches_
  rw [hb]
  have h3 := wSigned hwh h1 h2 hs
  unfold wK
  rw [hg]
  simp only [Bool.and_eq_true, decide_eq_true_eq]
  exact ⟨⟨⟨⟨⟨wSet_ok (hz.name i hi) (hz.tame i hi) (.inl rfl) (by omega), rfl⟩, wSet_ok (hz.name i hi) (hz.tame i hi) (.inr rfl) (by omega)⟩, rfl⟩, rfl⟩, h3⟩
omit hwh h1 h2
/-- The sets in the order in which they are asked for: anchors from the deepest zone on, then keys from the root on. -/
def wSeq (zs : List Bytes) (a b : Int) (j : Nat) : SignedC := if j < zs.length - 1 then wA zs a b (zs.length - 1 - j) else wK zs a b (j - (zs.length - 1))
def wKnown (zs : List Bytes) (a b : Int) (j : Nat) : List SignedC := (List.range j).map (wSeq zs a b)
omit hlen hwin in
theorem find_anchor {j i : Nat} (hj : j ≤ 2 * zs.length - 1) (hi : i < zs.length) (h0 : 0 < i) : findC (wKnown zs a b j) zs[i] 6 = if zs.length - 1 - i < j then some (wA zs a b i) else none := by
  unfold findC wKnown
  by_cases hlt : zs.length - 1 - i < j
  · rw [if_pos hlt]
    have hat : wSeq zs a b (zs.length - 1 - i) = wA zs a b i := by
      unfold wSeq
      rw [if_pos (by omega)]
      congr 1
      omega
    have hl : zs.length - 1 - i < ((List.range j).map (wSeq zs a b)).length := by simpa using hlt
    have := find_at (p := isSet zs[i] 6) (l := (List.range j).map (wSeq zs a b)) (k := zs.length - 1 - i) hl ?_ ?_
    · rw [this]; simp [hat]
    · simp only [List.getElem_map, List.getElem_range, hat]
      unfold isSet wA wSet
      simp [List.getElem?_eq_getElem hi]
    · intro m hm hmk
      simp only [List.getElem_map, List.getElem_range]
      unfold wSeq
      rw [if_pos (by omega)]
      unfold isSet wA wSet
      have hml : zs.length - 1 - m < zs.length := by omega
      simp only [List.getD_eq_getElem?_getD, List.getElem?_eq_getElem hml, Option.getD_some, Bool.and_eq_false_iff, decide_eq_false_iff_not]
      left
      intro he
      have := hz.inj hml hi he
      omega
  · rw [if_neg hlt]
    apply find_no
    intro m hm
    simp only [List.length_map, List.length_range] at hm
    simp only [List.getElem_map, List.getElem_range]
    unfold wSeq
    rw [if_pos (by omega)]
    unfold isSet wA wSet
    have hml : zs.length - 1 - m < zs.length := by omega
    simp only [List.getD_eq_getElem?_getD, List.getElem?_eq_getElem hml, Option.getD_some, Bool.and_eq_false_iff, decide_eq_false_iff_not]
    left
    intro he
    have := hz.inj hml hi he
    omega
omit hlen hwin in
theorem find_key {j i : Nat} (hj : j ≤ 2 * zs.length - 1) (hi : i < zs.length) : findC (wKnown zs a b j) zs[i] 7 = if zs.length - 1 + i < j then some (wK zs a b i) else none := by
  have hno : ∀ m, m < j → m ≠ zs.length - 1 + i → isSet zs[i] 7 (wSeq zs a b m) = false := by
    intro m hm hne
    unfold wSeq
    by_cases hma : m < zs.length - 1
    · rw [if_pos hma]
      unfold isSet wA wSet
      simp
    · rw [if_neg hma]
      unfold isSet wK wSet
      have hml : m - (zs.length - 1) < zs.length := by omega
      simp only [List.getD_eq_getElem?_getD, List.getElem?_eq_getElem hml, Option.getD_some, Bool.and_eq_false_iff, decide_eq_false_iff_not]
      left
      intro he
      have := hz.inj hml hi he
      omega
  unfold findC wKnown
  by_cases hlt : zs.length - 1 + i < j
  · rw [if_pos hlt]
    have hat : wSeq zs a b (zs.length - 1 + i) = wK zs a b i := by
      unfold wSeq
      rw [if_neg (by omega)]
      congr 1
      omega
    have hl : zs.length - 1 + i < ((List.range j).map (wSeq zs a b)).length := by simpa using hlt
    have := find_at (p := isSet zs[i] 7) (l := (List.range j).map (wSeq zs a b)) (k := zs.length - 1 + i) hl ?_ ?_
    · rw [this]; simp [hat]
    · simp only [List.getElem_map, List.getElem_range, hat]
      unfold isSet wK wSet
      simp [List.getElem?_eq_getElem hi]
    · intro m hm hmk
      simp only [List.getElem_map, List.getElem_range]
      exact hno m (by simpa using hm) (by omega)
  · rw [if_neg hlt]
    apply find_no
    intro m hm
    simp only [List.length_map, List.length_range] at hm
    simp only [List.getElem_map, List.getElem_range]
    exact hno m hm (by omega)
theorem way_ways {j : Nat} (hj : j ≤ 2 * zs.length - 1) : ∀ (i : Nat) (f : Nat) (l : List Bytes) (hi : i < zs.length), i < f → (zs.length - 1 - i ≤ j) → wayC (wKnown zs a b j) f zs[i] l = if zs.length - 1 ≤ j then (l ++ (zs.take i).reverse, qNil, 0) else ([], ⟨zs[zs.length - 1 - j]'(by omega), 6⟩, 4)
  | 0, f, l, hi, hf, h0 => by
    obtain ⟨f, rfl⟩ : ∃ g, f = g + 1 := ⟨f - 1, by omega⟩
    rw [hz.root hi, wayC_root, if_pos (by omega)]
    simp
  | i + 1, f, l, hi, hf, hk => by
    obtain ⟨f, rfl⟩ : ∃ g, f = g + 1 := ⟨f - 1, by omega⟩
    have hr := hz.notRoot hi (by omega)
    have hfa := find_anchor (a := a) (b := b) hz hj hi (by omega)
    by_cases hlt : zs.length - 1 - (i + 1) < j
    · rw [if_pos hlt] at hfa
      have hg : zs.getD (i + 1) [] = zs[i + 1] := by rw [List.getD_eq_getElem?_getD, List.getElem?_eq_getElem hi]; rfl
      have hg0 : zs.getD i [] = zs[i] := by rw [List.getD_eq_getElem?_getD, List.getElem?_eq_getElem (by omega)]; rfl
      have hs := wA_sign hz hlen hwin (i := i) hi
      have hsig : (wA zs a b (i + 1)).sigs = [⟨zs[i], (wKey i).n, (wKey i).alg, a, b, sumC (wSet zs[i + 1] 6 (i + 1)) zs[i] (wKey i) a b⟩] := by
        show [(signC (wSet (zs.getD (i + 1) []) 6 (i + 1)) (zs.getD i []) (wKey i) a b).1] = _
        rw [hg, hg0, hs]
      have hne : zs[i + 1] ≠ zs[i] := fun h => by have := hz.inj hi (by omega) h; omega
      rw [wayC_go hr hfa hsig ⟨hz.name _ hi, hz.name i (by omega), hz.under i hi, hne⟩]
      simp only
      rw [way_ways hj i f _ (by omega) (by omega) (by omega)]
      by_cases hc : zs.length - 1 ≤ j
      · rw [if_pos hc, if_pos hc, List.take_succ_eq_append_getElem (by omega), List.reverse_append]
        simp
      · rw [if_neg hc, if_neg hc]
    · rw [if_neg hlt] at hfa
      rw [wayC_none hr hfa, if_neg (by omega)]
      have : zs.length - 1 - j = i + 1 := by omega
      simp only [this]
include hwh h1 h2
theorem follow_ways {j : Nat} (hj : j ≤ 2 * zs.length - 1) (hja : zs.length - 1 ≤ j) (h0 : 0 < zs.length) : ∀ (i : Nat) (hi : i < zs.length), followC (wKnown zs a b j) (wSet [46] 6 0) t d ((zs.take (i + 1)).reverse) = if zs.length - 1 + i < j then ([wKey i], qNil, 0) else ([], ⟨zs.getD (j - (zs.length - 1)) [], 7⟩, 4)
  | 0, hi => by
    have hroot := hz.root hi
    have hfk := find_key (a := a) (b := b) hz hj hi
    rw [List.take_succ_eq_append_getElem hi, List.take_zero, List.nil_append, List.reverse_singleton, followC_step (keys := []) (q := qNil) rfl, anch_root hroot]
    by_cases hlt : zs.length - 1 + 0 < j
    · rw [if_pos hlt] at hfk ⊢
      rw [hfk]
      have hm := wMatch hz hlen hwin hwh h1 h2 hi
      rw [show wSet zs[0] 6 0 = wSet [46] 6 0 by rw [hroot]] at hm
      simp only [hm, if_true]
      rfl
    · rw [if_neg hlt] at hfk ⊢
      rw [hfk]
      have : j - (zs.length - 1) = 0 := by omega
      simp only [this]
      rw [List.getD_eq_getElem?_getD, List.getElem?_eq_getElem hi]
      rfl
  | i + 1, hi => by
    have ih := follow_ways hj hja h0 i (by omega)
    rw [List.take_succ_eq_append_getElem hi, List.reverse_append, List.reverse_singleton, List.singleton_append]
    have hfk := find_key (a := a) (b := b) hz hj hi
    by_cases hlt : zs.length - 1 + i < j
    · rw [if_pos hlt] at ih
      have hfa := find_anchor (a := a) (b := b) hz hj hi (by omega)
      rw [if_pos (by omega)] at hfa
      have hup : (zs.take (i + 1)).reverse = zs[i] :: (zs.take i).reverse := by
        rw [List.take_succ_eq_append_getElem (by omega), List.reverse_append]; rfl
      rw [followC_step ih]
      have hg : zs.getD (i + 1) [] = zs[i + 1] := by rw [List.getD_eq_getElem?_getD, List.getElem?_eq_getElem hi]; rfl
      have hg0 : zs.getD i [] = zs[i] := by rw [List.getD_eq_getElem?_getD, List.getElem?_eq_getElem (by omega)]; rfl
      have hsb : signedBy (wA zs a b (i + 1)) zs[i] [wKey i] t d = true := by
        have := wSigned hwh h1 h2 (wA_sign hz hlen hwin (i := i) hi)
        unfold wA
        rw [hg, show i + 1 - 1 = i by omega, hg0]
        exact this
      have han : anchorsOf (wKnown zs a b j) (wSet [46] 6 0) t d zs[i + 1] ((zs.take (i + 1)).reverse) [wKey i] = some (wSet zs[i + 1] 6 (i + 1)) := by
        unfold anchorsOf
        rw [if_neg (hz.notRoot hi (by omega)), hfa, hup]
        simp only [hsb, if_true]
        unfold wA
        rw [hg]
      rw [han]
      by_cases hlt2 : zs.length - 1 + (i + 1) < j
      · rw [if_pos hlt2] at hfk ⊢
        rw [hfk]
        have hm := wMatch hz hlen hwin hwh h1 h2 hi
        simp only [hm, if_true]
        rfl
      · rw [if_neg hlt2] at hfk ⊢
        rw [hfk]
        have : j - (zs.length - 1) = i + 1 := by omega
        simp only [this]
        rw [hg]
    · rw [if_neg hlt] at ih
      rw [followC_err ih (by decide), if_neg (by omega)]
omit hwh h1 h2 hwin in
theorem known_ok {j : Nat} (hj : j ≤ 2 * zs.length - 1) : (wKnown zs a b j).any (fun s => !setOK s.set) = false := by
  rw [List.any_eq_false]
  intro x hx
  unfold wKnown at hx
  obtain ⟨m, hm, rfl⟩ := List.mem_map.1 hx
  have hm := List.mem_range.1 hm
  have : setOK (wSeq zs a b m).set = true := by
    unfold wSeq
    split
    · have hml : zs.length - 1 - m < zs.length := by omega
      unfold wA
      simp only [List.getD_eq_getElem?_getD, List.getElem?_eq_getElem hml, Option.getD_some]
      exact wSet_ok (hz.name _ hml) (hz.tame _ hml) (.inl rfl) (by omega)
    · have hml : m - (zs.length - 1) < zs.length := by omega
      unfold wK
      simp only [List.getD_eq_getElem?_getD, List.getElem?_eq_getElem hml, Option.getD_some]
      exact wSet_ok (hz.name _ hml) (hz.tame _ hml) (.inr rfl) (by omega)
  simp [this]
/-- The question that comes next. -/
def wAsk (zs : List Bytes) (j : Nat) : Question := if j < zs.length - 1 then ⟨zs.getD (zs.length - 1 - j) [], 6⟩ else ⟨zs.getD (j - (zs.length - 1)) [], 7⟩
theorem path_ways {j : Nat} (h0 : 0 < zs.length) (hj : j ≤ 2 * zs.length - 1) : pathC (wKnown zs a b j) (wSet [46] 6 0) (zs.getD (zs.length - 1) []) t d = if j < 2 * zs.length - 1 then ([], wAsk zs j, 4) else ([wKey (zs.length - 1)], qNil, 0) := by
  have hl : zs.length - 1 < zs.length := by omega
  have hgl : zs.getD (zs.length - 1) [] = zs[zs.length - 1] := by rw [List.getD_eq_getElem?_getD, List.getElem?_eq_getElem hl]; rfl
  rw [hgl]
  have hb : badP (wKnown zs a b j) (wSet [46] 6 0) zs[zs.length - 1] t d = false := by
    unfold badP
    rw [known_ok hz hlen hj, hz.name _ hl, hz.tame _ hl, hwh, wSet_ok (by decide) (by decide) (.inl rfl) (by decide)]
    have : (wKnown zs a b j).length = j := by simp [wKnown]
    rw [this, decide_eq_false (show ¬ j > 400 by omega)]
    rfl
  rw [pathC_good hb, way_ways (t := t) (d := d) hz hlen hwin hj (zs.length - 1) 100 _ hl (by omega) (by omega)]
  by_cases hc : zs.length - 1 ≤ j
  · rw [if_pos hc]
    simp only [if_true]
    have hrev : [zs[zs.length - 1]] ++ (zs.take (zs.length - 1)).reverse = (zs.take (zs.length - 1 + 1)).reverse := by
      rw [List.take_succ_eq_append_getElem hl, List.reverse_append]; rfl
    rw [hrev, follow_ways hz hlen hwin hwh h1 h2 hj hc h0 _ hl]
    by_cases hlt : j < 2 * zs.length - 1
    · rw [if_neg (by omega), if_pos hlt]
      unfold wAsk
      rw [if_neg (by omega)]
    · rw [if_pos (by omega), if_neg hlt]
  · rw [if_neg hc, if_neg (by simp), if_pos (by omega)]
    unfold wAsk
    rw [if_pos (by omega)]
    have hjl : zs.length - 1 - j < zs.length := by omega
    rw [List.getD_eq_getElem?_getD, List.getElem?_eq_getElem hjl]
    rfl
end
end Go.Proofs.YtfbhcemlnojejaaDoor
