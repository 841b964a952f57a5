/- Plain laws of iterating: what a resolver asks next. -/
import Derived.Test.YtfbhcemlnojejaaDoorQTWay
namespace Go.Proofs.YtfbhcemlnojejaaDoor
set_option linter.unusedVariables false
set_option linter.unusedSimpArgs false
open Go
set_option maxRecDepth 20000

structure NextC where
  kind : Int
  zone : Bytes
  addrs : List Int
  q : Question
  sets : List SignedC
  deriving DecidableEq
def nextNil : NextC := ⟨0, [], [], qNil, []⟩
def darkN : NextC := ⟨3, [], [], qNil, []⟩
def dNil : Datum := ⟨[], 0, 0⟩
def has (K : List SignedC) (n : Bytes) (t : Int) : Bool := (findC K n t).isSome
def followI (K : List SignedC) : Nat → List SignedC → Bytes → Int → Option (List SignedC × Bytes)
  | 0, kept, s, _ => some (kept, s)
  | f + 1, kept, s, t =>
    if has K s t || decide (t = 3) || decide (t = 8) then some (kept, s) else
    match findC K s 3 with
    | none => some (kept, s)
    | some a => if kept.length = 8 then none else followI K f (kept ++ [a]) (a.set.data.headD dNil).text t
def aboveL : List Bytes → List Bytes
  | [] => [[46]]
  | x :: r => glueC (x :: r) :: aboveL r
/-- A name, the one above it, and so on, up to the root. -/
def aboveC (s : Bytes) : List Bytes := aboveL (parts s)
def asked (K : List SignedC) (q : Question) (left : List Bytes) (z : Bytes) : Bool := decide (z = [46]) || (has K z 2 && !(decide (z = q.name) && decide (q.typ = 6)) && !left.contains z)
def zonesC (K : List SignedC) (q : Question) (left : List Bytes) : List Bytes := (aboveC q.name).filter (asked K q left)
def hostsC (K : List SignedC) (z : Bytes) : List Datum := match findC K z 2 with | some s => s.set.data | none => []
def addN (l : List Int) (d : Datum) : List Int := if l.contains d.n then l else l ++ [d.n]
def dataC (K : List SignedC) (h : Bytes) : List Datum := match findC K h 1 with | some s => s.set.data | none => []
def foundA (K : List SignedC) (z : Bytes) : List Int := (hostsC K z).foldl (fun l h => (dataC K h.text).foldl addN l) []
def addrsI (K : List SignedC) (hints : List Int) (z : Bytes) : List Int := if foundA K z = [] ∧ z = [46] then hints else foundA K z
def outsideC (K : List SignedC) (z : Bytes) : Option Bytes := ((hostsC K z).find? fun h => !inN h.text z).map (·.text)
def hostQ (K : List SignedC) (h : Bytes) : Option Bytes :=
  match followI K 9 [] h 1 with
  | none => none
  | some (_, e) => if has K e 1 then none else some e
def goI (K : List SignedC) (hints : List Int) (again : Question → List Bytes → NextC) (q : Question) (left : List Bytes) : List Bytes → NextC
  | [] => darkN
  | z :: r =>
    if addrsI K hints z ≠ [] then ⟨1, z, addrsI K hints z, q, []⟩ else
    if left.length ≥ 8 then goI K hints again q left r else
    match outsideC K z with
    | none => goI K hints again q left r
    | some h =>
      match hostQ K h with
      | none => goI K hints again q left r
      | some e => again ⟨e, 1⟩ (left ++ [z])
def nextI (K : List SignedC) (hints : List Int) : Nat → Question → List Bytes → NextC
  | 0, _, _ => darkN
  | f + 1, q, left => goI K hints (nextI K hints f) q left (zonesC K q left)
def hintsC (l : List Int) : Bool := decide (1 ≤ l.length ∧ l.length ≤ 8) && l.all fun n => decide (1 ≤ n ∧ n ≤ 1000000)
def knownOK (K : List SignedC) : Bool := decide (K.length ≤ 400) && K.all fun s => setOK s.set
def askC (K : List SignedC) (hints : List Int) (q : Question) : NextC × Int :=
  if !(knownOK K && hintsC hints && questionOK q) then (nextNil, 1) else
  match followI K 9 [] q.name q.typ with
  | none => (darkN, 0)
  | some (kept, e) =>
    match findC K e q.typ with
    | some s => (⟨2, [], [], qNil, kept ++ [s]⟩, 0)
    | none => (nextI K hints 9 ⟨e, q.typ⟩ [], 0)
def zoneI (K : List SignedC) (s : Bytes) : Bytes × Int :=
  if !(knownOK K && nameOK s) then ([], 1) else (((aboveC s).find? fun z => has K z 2).getD [46], 0)
theorem parts_labs {s : Bytes} (h : nameOK s = true) : labsOK (parts s) = true ∧ (parts s).length ≤ 8 := by
  unfold parts
  by_cases hr : s = [46]
  · rw [if_pos hr]; exact ⟨by decide, by simp⟩
  · rw [if_neg hr]
    unfold nameOK at h
    rw [decide_eq_false hr] at h
    simp only [Bool.false_or, Bool.and_eq_true, decide_eq_true_eq, Bool.or_eq_true] at h
    refine ⟨?_, h.1.1.2⟩
    unfold labsOK
    obtain ⟨x, r, hx⟩ := List.exists_cons_of_ne_nil (splitDots_ne s)
    rw [hx] at h ⊢
    simp only [List.headD_cons, List.tail_cons, Bool.and_eq_true, Bool.or_eq_true, decide_eq_true_eq] at h ⊢
    exact ⟨h.1.2.symm.imp_left (fun h => decide_eq_true h), h.2⟩
theorem labs_tail {x : Bytes} {l : List Bytes} (h : labsOK (x :: l) = true) : labsOK l = true := by
  unfold labsOK at h ⊢
  simp only [List.headD_cons, List.tail_cons, Bool.and_eq_true] at h
  cases l with
  | nil => decide
  | cons y r =>
    have h2 := h.2
    rw [List.all_cons, Bool.and_eq_true] at h2
    simp only [List.headD_cons, List.tail_cons, h2.1, h2.2, Bool.or_true, Bool.and_self]
theorem glue_split {s : Bytes} : glueC (parts s) = s := by
  unfold glueC parts
  by_cases hr : s = [46]
  · rw [if_pos hr, if_pos rfl, hr]
  · rw [if_neg hr, if_neg (splitDots_ne s), join_split]
theorem joinD_len : ∀ {x : Bytes} {l : List Bytes}, (joinD l).length ≤ (joinD (x :: l)).length
  | x, [] => by simp [joinD]
  | x, y :: r => by rw [joinD_cons (List.cons_ne_nil y r)]; simp; omega
theorem glue_name {l : List Bytes} (h : labsOK l = true) (h8 : l.length ≤ 8) (h60 : (glueC l).length ≤ 60) : nameOK (glueC l) = true := by
  have hj : joinC l = (glueC l, 0) := by unfold joinC; rw [if_pos]; simp [h, h8, h60]
  have := (join_name (l := l) (by rw [hj])).1
  rwa [hj] at this
theorem glue_len {x : Bytes} {l : List Bytes} (h : labsOK (x :: l) = true) : (glueC l).length ≤ (glueC (x :: l)).length := by
  unfold glueC
  rw [if_neg (List.cons_ne_nil x l)]
  by_cases hl : l = []
  · rw [if_pos hl]
    have h1 : labsOK (x :: l) = true := h
    subst hl
    unfold labsOK at h1
    simp only [List.headD_cons, List.tail_cons, Bool.and_eq_true, Bool.or_eq_true, decide_eq_true_eq] at h1
    rcases h1.1 with h1 | h1
    · rw [of_decide_eq_true h1]; decide
    · obtain ⟨c, r, rfl, _⟩ := lab_head h1
      simp [joinD]
  · rw [if_neg hl]; exact joinD_len
/-- What is above a name. -/
theorem above_mem : ∀ {l : List Bytes}, labsOK l = true → l.length ≤ 8 → (glueC l).length ≤ 60 → ∀ z ∈ aboveL l, nameOK z = true ∧ parts z <:+ l
  | [], _, _, _, z, hz => by
    rw [List.mem_singleton.1 hz]
    exact ⟨by decide, List.suffix_refl _⟩
  | x :: l, h, h8, h60, z, hz => by
    rcases List.mem_cons.1 hz with rfl | hz
    · exact ⟨glue_name h h8 h60, by rw [join_parts h]; exact List.suffix_refl _⟩
    · obtain ⟨h1, h2⟩ := above_mem (labs_tail h) (by rw [List.length_cons] at h8; omega) (Nat.le_trans (glue_len h) h60) z hz
      exact ⟨h1, h2.trans (List.suffix_cons _ _)⟩
theorem glue_le {s : Bytes} (h : nameOK s = true) : (glueC (parts s)).length ≤ 60 := by rw [glue_split]; exact nameOK_le h
theorem aboveC_mem {s : Bytes} (h : nameOK s = true) {z : Bytes} (hz : z ∈ aboveC s) : nameOK z = true ∧ inN s z = true := by
  obtain ⟨h1, h2⟩ := above_mem (parts_labs h).1 (parts_labs h).2 (glue_le h) z hz
  exact ⟨h1, decide_eq_true h2⟩
theorem aboveL_split : ∀ (p m : List Bytes), labsOK (p ++ m) = true → ∃ l1 l2, aboveL (p ++ m) = l1 ++ glueC m :: l2 ∧ ∀ y ∈ l1, m <:+ parts y
  | [], [], _ => ⟨[], [], rfl, fun y hy => by cases hy⟩
  | [], x :: r, _ => ⟨[], aboveL r, rfl, fun y hy => by cases hy⟩
  | x :: p, m, h => by
    obtain ⟨l1, l2, he, hy⟩ := aboveL_split p m (labs_tail h)
    refine ⟨glueC (x :: (p ++ m)) :: l1, l2, by show _ :: aboveL (p ++ m) = _; rw [he]; rfl, fun y hy' => ?_⟩
    rcases List.mem_cons.1 hy' with rfl | hy'
    · rw [show x :: (p ++ m) = x :: p ++ m from rfl, join_parts h]
      exact (List.suffix_append p m).trans (List.suffix_cons _ _)
    · exact hy y hy'
/-- A name above another one: what stands ahead of it is under it. -/
theorem aboveC_split {s z : Bytes} (h : nameOK s = true) (hin : inN s z = true) : ∃ l1 l2, aboveC s = l1 ++ z :: l2 ∧ ∀ y ∈ l1, inN y z = true := by
  unfold inN at hin
  obtain ⟨p, hp⟩ := of_decide_eq_true hin
  obtain ⟨l1, l2, he, hy⟩ := aboveL_split p (parts z) (by rw [hp]; exact (parts_labs h).1)
  refine ⟨l1, l2, ?_, fun y hy' => decide_eq_true (hy y hy')⟩
  unfold aboveC
  rw [← hp, he, glue_split]
theorem mem_find {K : List SignedC} {n : Bytes} {t : Int} {a : SignedC} (h : findC K n t = some a) : a ∈ K ∧ a.set.name = n ∧ a.set.typ = t := by
  unfold findC at h
  have h1 := List.mem_of_find?_eq_some h
  have h2 := List.find?_some h
  unfold isSet at h2
  simp only [Bool.and_eq_true, decide_eq_true_eq] at h2
  exact ⟨h1, h2.1, h2.2⟩
theorem known_set {K : List SignedC} (hK : knownOK K = true) {a : SignedC} (h : a ∈ K) : setOK a.set = true := by
  unfold knownOK at hK
  simp only [Bool.and_eq_true] at hK
  exact List.all_eq_true.1 hK.2 a h
theorem data_host {s : SetC} (h : setOK s = true) (ht : s.typ = 2 ∨ s.typ = 3) {d : Datum} (hd : d ∈ s.data) : nameOK d.text = true ∧ wild d.text = false := by
  rw [setOK_eq] at h
  simp only [Bool.and_eq_true] at h
  have h1 := List.all_eq_true.1 h.2.1 d hd
  rcases ht with ht | ht
  · rw [ht, datumOK_2] at h1
    unfold hostOK at h1
    simp only [Bool.and_eq_true, Bool.not_eq_true'] at h1
    exact ⟨h1.1.1.1, h1.1.1.2⟩
  · rw [ht, datumOK_3] at h1
    unfold hostOK at h1
    simp only [Bool.and_eq_true, Bool.not_eq_true'] at h1
    exact ⟨h1.1.1.1, h1.1.1.2⟩
theorem data_pos {s : SetC} (h : setOK s = true) : ∃ d r, s.data = d :: r := by
  rw [setOK_eq] at h
  simp only [Bool.and_eq_true] at h
  have h1 := h.1
  cases hd : s.data with
  | nil =>
    unfold headOK at h1
    rw [hd] at h1
    simp at h1
  | cons d r => exact ⟨d, r, rfl⟩
theorem alias_text {K : List SignedC} (hK : knownOK K = true) {s : Bytes} {a : SignedC} (h : findC K s 3 = some a) : nameOK (a.set.data.headD dNil).text = true := by
  obtain ⟨h1, _, h3⟩ := mem_find h
  have hs := known_set hK h1
  obtain ⟨d, r, hd⟩ := data_pos hs
  rw [hd]
  exact (data_host hs (.inr h3) (by rw [hd]; exact List.mem_cons_self ..)).1
theorem follow_name {K : List SignedC} (hK : knownOK K = true) : ∀ {f : Nat} {kept : List SignedC} {s : Bytes} {t : Int} {k : List SignedC} {e : Bytes}, nameOK s = true → followI K f kept s t = some (k, e) → nameOK e = true
  | 0, kept, s, t, k, e, hs, h => by
    simp only [followI, Option.some.injEq, Prod.mk.injEq] at h
    rw [← h.2]; exact hs
  | f + 1, kept, s, t, k, e, hs, h => by
    unfold followI at h
    split at h
    · simp only [Option.some.injEq, Prod.mk.injEq] at h
      rw [← h.2]; exact hs
    · cases ha : findC K s 3 with
      | none =>
        rw [ha] at h
        simp only [Option.some.injEq, Prod.mk.injEq] at h
        rw [← h.2]; exact hs
      | some a =>
        rw [ha] at h
        simp only at h
        split at h
        · cases h
        · exact follow_name hK (alias_text hK ha) h
theorem hostQ_some {K : List SignedC} (hK : knownOK K = true) {h e : Bytes} (hn : nameOK h = true) (he : hostQ K h = some e) : nameOK e = true ∧ has K e 1 = false := by
  unfold hostQ at he
  cases hf : followI K 9 [] h 1 with
  | none => rw [hf] at he; cases he
  | some p =>
    rw [hf] at he
    simp only at he
    split at he
    · cases he
    · simp only [Option.some.injEq] at he
      subst he
      exact ⟨follow_name hK hn hf, by simpa using (by assumption : ¬ has K p.2 1 = true)⟩
theorem outside_name {K : List SignedC} (hK : knownOK K = true) {z h : Bytes} (ho : outsideC K z = some h) : nameOK h = true := by
  unfold outsideC at ho
  obtain ⟨d, hd, rfl⟩ := Option.map_eq_some_iff.1 ho
  have hm := List.mem_of_find?_eq_some hd
  unfold hostsC at hm
  cases hf : findC K z 2 with
  | none => rw [hf] at hm; cases hm
  | some s =>
    rw [hf] at hm
    obtain ⟨h1, _, h3⟩ := mem_find hf
    exact (data_host (known_set hK h1) (.inl h3) hm).1
/-- What is asked. -/
structure AskOK (K : List SignedC) (hints : List Int) (r : NextC) : Prop where
  name : nameOK r.zone = true
  q : questionOK r.q = true
  under : inN r.q.name r.zone = true
  unknown : findC K r.q.name r.q.typ = none
  some_ : r.addrs ≠ []
  anchor : ¬ (r.q.typ = 6 ∧ r.q.name = r.zone ∧ r.zone ≠ [46])
  addrs : r.addrs = addrsI K hints r.zone
  sets : r.sets = []
theorem next_ok {K : List SignedC} {hints : List Int} (hK : knownOK K = true) : ∀ {f : Nat} {q : Question} {left : List Bytes}, questionOK q = true → findC K q.name q.typ = none → (nextI K hints f q left = darkN ∨ ((nextI K hints f q left).kind = 1 ∧ AskOK K hints (nextI K hints f q left)))
  | 0, q, left, _, _ => .inl rfl
  | f + 1, q, left, hq, hu => by
    have hqn : nameOK q.name = true ∧ decide (1 ≤ q.typ ∧ q.typ ≤ 8) = true := by
      unfold questionOK at hq
      rw [Bool.and_eq_true] at hq
      exact hq
    unfold nextI
    have hz : ∀ z ∈ zonesC K q left, nameOK z = true ∧ inN q.name z = true ∧ ¬ (q.typ = 6 ∧ q.name = z ∧ z ≠ [46]) := by
      intro z hz
      obtain ⟨h1, h2⟩ := List.mem_filter.1 hz
      obtain ⟨h3, h4⟩ := aboveC_mem hqn.1 h1
      refine ⟨h3, h4, ?_⟩
      rintro ⟨h5, h6, h7⟩
      unfold asked at h2
      simp [h5, h6, h7] at h2
    generalize zonesC K q left = l at hz
    induction l with
    | nil => exact .inl rfl
    | cons z r ih =>
      have ih := ih fun y hy => hz y (List.mem_cons_of_mem _ hy)
      obtain ⟨h1, h2, h3⟩ := hz z (List.mem_cons_self ..)
      unfold goI
      by_cases ha : addrsI K hints z ≠ []
      · rw [if_pos ha]
        exact .inr ⟨rfl, h1, hq, h2, hu, ha, h3, rfl, rfl⟩
      · rw [if_neg ha]
        split
        · exact ih
        · cases ho : outsideC K z with
          | none => exact ih
          | some h =>
            simp only
            cases hh : hostQ K h with
            | none => exact ih
            | some e =>
              obtain ⟨h5, h6⟩ := hostQ_some hK (outside_name hK ho) hh
              refine next_ok hK ?_ ?_
              · unfold questionOK; simp [h5]
              · unfold has at h6
                simpa using h6
/-- A zone with servers whose addresses are known is not passed by. -/
theorem next_in {K : List SignedC} {hints : List Int} {z0 : Bytes} (hK : knownOK K = true) (hs : has K z0 2 = true) (ha : addrsI K hints z0 ≠ []) : ∀ {f : Nat} {q : Question} {left : List Bytes}, nameOK q.name = true → z0 ∉ left → (nextI K hints f q left).kind = 1 → inN (nextI K hints f q left).q.name z0 = true → (nextI K hints f q left).q.typ ≠ 6 → inN (nextI K hints f q left).zone z0 = true
  | 0, q, left, _, _, h, _, _ => by cases h
  | f + 1, q, left, hq, hl, h, hi, ht => by
    -- any list of zones of which each one ahead of z0 is under z0, if z0 is there at all
    have key : ∀ l : List Bytes, ((∃ l1 l2, l = l1 ++ z0 :: l2 ∧ ∀ y ∈ l1, inN y z0 = true) ∨ inN q.name z0 = false ∨ q.typ = 6) → (goI K hints (nextI K hints f) q left l).kind = 1 → inN (goI K hints (nextI K hints f) q left l).q.name z0 = true → (goI K hints (nextI K hints f) q left l).q.typ ≠ 6 → inN (goI K hints (nextI K hints f) q left l).zone z0 = true := by
      intro l
      induction l with
      | nil => intro _ h; cases h
      | cons z r ih =>
        intro hc h hi ht
        unfold goI at h hi ht ⊢
        by_cases haz : addrsI K hints z ≠ []
        · rw [if_pos haz] at h hi ht ⊢
          simp only at hi ht ⊢
          rcases hc with ⟨l1, l2, he, hy⟩ | hc | hc
          · cases l1 with
            | nil =>
              rw [List.nil_append] at he
              injection he with he _
              rw [he]; exact in_refl _
            | cons y l1 =>
              rw [List.cons_append] at he
              injection he with he _
              rw [he]; exact hy y (List.mem_cons_self ..)
          · rw [hc] at hi; cases hi
          · exact absurd hc ht
        · have hzz : z ≠ z0 := by rintro rfl; exact haz ha
          have hc' : (∃ l1 l2, r = l1 ++ z0 :: l2 ∧ ∀ y ∈ l1, inN y z0 = true) ∨ inN q.name z0 = false ∨ q.typ = 6 := by
            rcases hc with ⟨l1, l2, he, hy⟩ | hc
            · cases l1 with
              | nil =>
                rw [List.nil_append] at he
                injection he with he _
                exact absurd he hzz
              | cons y l1 =>
                rw [List.cons_append] at he
                injection he with _ he
                exact .inl ⟨l1, l2, he, fun y hy' => hy y (List.mem_cons_of_mem _ hy')⟩
            · exact .inr hc
          have ih := ih hc'
          rw [if_neg haz] at h hi ht ⊢
          split
          · rename_i h8
            rw [if_pos h8] at h hi ht
            exact ih h hi ht
          · rename_i h8
            rw [if_neg h8] at h hi ht
            cases ho : outsideC K z with
            | none =>
              rw [ho] at h hi ht
              exact ih h hi ht
            | some o =>
              rw [ho] at h hi ht
              simp only at h hi ht ⊢
              cases hh : hostQ K o with
              | none =>
                rw [hh] at h hi ht
                exact ih h hi ht
              | some e =>
                rw [hh] at h hi ht
                simp only at h hi ht ⊢
                refine next_in hK hs ha (hostQ_some hK (outside_name hK ho) hh).1 ?_ h hi ht
                intro hm
                rcases List.mem_append.1 hm with hm | hm
                · exact hl hm
                · exact hzz (List.mem_singleton.1 hm).symm
    unfold nextI at h hi ht ⊢
    refine key _ ?_ h hi ht
    cases hin : inN q.name z0 with
    | false => exact .inr (.inl rfl)
    | true =>
      by_cases h6 : q.typ = 6
      · exact .inr (.inr h6)
      · left
        obtain ⟨l1, l2, he, hy⟩ := aboveC_split hq hin
        refine ⟨l1.filter (asked K q left), l2.filter (asked K q left), ?_, fun y hy' => hy y (List.mem_filter.1 hy').1⟩
        unfold zonesC
        rw [he, List.filter_append, List.filter_cons, if_pos]
        unfold asked
        simp [hs, h6, hl]
theorem addN_mem {l : List Int} {d : Datum} {x : Int} : x ∈ addN l d ↔ x ∈ l ∨ x = d.n := by
  unfold addN
  by_cases h : l.contains d.n = true
  · rw [if_pos h]
    refine ⟨.inl, ?_⟩
    rintro (h1 | rfl)
    · exact h1
    · simpa using h
  · rw [if_neg h]; simp
theorem addN_fold {x : Int} : ∀ {ds : List Datum} {l : List Int}, x ∈ ds.foldl addN l ↔ x ∈ l ∨ ∃ d ∈ ds, d.n = x
  | [], l => by simp
  | d :: ds, l => by
    rw [List.foldl_cons, addN_fold, addN_mem]
    constructor
    · rintro ((h | rfl) | ⟨e, he, hx⟩)
      · exact .inl h
      · exact .inr ⟨d, List.mem_cons_self .., rfl⟩
      · exact .inr ⟨e, List.mem_cons_of_mem _ he, hx⟩
    · rintro (h | ⟨e, he, hx⟩)
      · exact .inl (.inl h)
      · rcases List.mem_cons.1 he with rfl | he
        · exact .inl (.inr hx.symm)
        · exact .inr ⟨e, he, hx⟩
theorem found_mem {K : List SignedC} {z : Bytes} {x : Int} : x ∈ foundA K z ↔ ∃ h ∈ hostsC K z, ∃ d ∈ dataC K h.text, d.n = x := by
  have key : ∀ (hs : List Datum) (l : List Int), x ∈ hs.foldl (fun l h => (dataC K h.text).foldl addN l) l ↔ x ∈ l ∨ ∃ h ∈ hs, ∃ d ∈ dataC K h.text, d.n = x := by
    intro hs
    induction hs with
    | nil => intro l; simp
    | cons h hs ih =>
      intro l
      rw [List.foldl_cons, ih, addN_fold]
      constructor
      · rintro ((h1 | h1) | ⟨e, he, h1⟩)
        · exact .inl h1
        · exact .inr ⟨h, List.mem_cons_self .., h1⟩
        · exact .inr ⟨e, List.mem_cons_of_mem _ he, h1⟩
      · rintro (h1 | ⟨e, he, h1⟩)
        · exact .inl (.inl h1)
        · rcases List.mem_cons.1 he with rfl | he
          · exact .inl (.inr h1)
          · exact .inr ⟨e, he, h1⟩
  unfold foundA
  rw [key]
  simp
theorem addrs_mem {K : List SignedC} {hints : List Int} {z : Bytes} {x : Int} (h : x ∈ addrsI K hints z) : (z = [46] ∧ x ∈ hints) ∨ ∃ h ∈ hostsC K z, ∃ d ∈ dataC K h.text, d.n = x := by
  unfold addrsI at h
  split at h
  · rename_i hc
    exact .inl ⟨hc.2, h⟩
  · exact .inr (found_mem.1 h)
theorem follow_found {K : List SignedC} {f : Nat} {kept : List SignedC} {s : Bytes} {t : Int} {a : SignedC} (h : findC K s t = some a) : followI K (f + 1) kept s t = some (kept, s) := by
  unfold followI has
  rw [h]
  simp
/-- Of a zone's servers one has an address. -/
theorem found_pos {K : List SignedC} {z : Bytes} {s a : SignedC} {d : Datum} (hK : knownOK K = true) (hs : findC K z 2 = some s) (hd : d ∈ s.set.data) (ha : findC K d.text 1 = some a) : foundA K z ≠ [] := by
  obtain ⟨e, r, he⟩ := data_pos (known_set hK (mem_find ha).1)
  have : e.n ∈ foundA K z := found_mem.2 ⟨d, by unfold hostsC; rw [hs]; exact hd, e, by unfold dataC; rw [ha]; simp only; rw [he]; exact List.mem_cons_self .., rfl⟩
  intro h
  rw [h] at this
  cases this
theorem zone_found {K : List SignedC} {s : Bytes} (hs : nameOK s = true) (z : Bytes) (hz : z = ((aboveC s).find? fun z => has K z 2).getD [46]) : nameOK z = true ∧ inN s z = true ∧ (z = [46] ∨ has K z 2 = true) ∧ ∀ y, has K y 2 = true → inN s y = true → inN z y = true := by
  cases hf : (aboveC s).find? fun z => has K z 2 with
  | none =>
    rw [hf] at hz
    simp only [Option.getD_none] at hz
    subst hz
    refine ⟨by decide, in_dot s, .inl rfl, fun y hy hin => ?_⟩
    obtain ⟨l1, l2, he, _⟩ := aboveC_split hs hin
    have := List.find?_eq_none.1 hf y (by rw [he]; simp)
    exact absurd hy this
  | some x =>
    rw [hf] at hz
    simp only [Option.getD_some] at hz
    subst hz
    have hm := aboveC_mem hs (List.mem_of_find?_eq_some hf)
    refine ⟨hm.1, hm.2, .inr (by simpa using List.find?_some hf), fun y hy hin => ?_⟩
    obtain ⟨l1, l2, he, hl1⟩ := aboveC_split hs hin
    rw [he, List.find?_append] at hf
    cases hf1 : l1.find? fun z => has K z 2 with
    | some w =>
      rw [hf1] at hf
      simp only [Option.some_or, Option.some.injEq] at hf
      subst hf
      exact hl1 _ (List.mem_of_find?_eq_some hf1)
    | none =>
      rw [hf1] at hf
      simp only [Option.none_or, List.find?_cons, hy, Option.some.injEq] at hf
      subst hf
      exact in_refl _
end Go.Proofs.YtfbhcemlnojejaaDoor
