/- Plain laws: lists. -/
import Derived.Test.YtfbhcemlnojejaaDoorSpec
namespace Go.Proofs.YtfbhcemlnojejaaDoor
set_option linter.unusedVariables false
set_option linter.unusedSimpArgs false
open Go
def idxI {α : Type} (p : α → Bool) (l : List α) : Int := if l.any p = true then (l.findIdx p : Int) else -1
theorem idxI_at {α : Type} {p : α → Bool} {l : List α} {k : Nat} (hk : k < l.length) (h : p l[k] = true) (hb : ∀ j (hj : j < k), p (l[j]'(by omega)) = false) : idxI p l = k := by
  unfold idxI
  rw [if_pos (List.any_eq_true.2 ⟨_, List.getElem_mem hk, h⟩), (List.findIdx_eq hk).2 ⟨h, fun j hj => hb j hj⟩]
theorem any_no {α : Type} {p : α → Bool} {l : List α} (h : ∀ j (hj : j < l.length), p l[j] = false) : l.any p = false := by
  rw [List.any_eq_false]
  intro x hx
  obtain ⟨j, hj, rfl⟩ := List.mem_iff_getElem.1 hx
  rw [h j hj]; simp
theorem all_no {α : Type} {p : α → Bool} {l : List α} {k : Nat} (hk : k < l.length) (h : p l[k] = false) : l.all p = false := by
  rw [List.all_eq_false]
  exact ⟨_, List.getElem_mem hk, by rw [h]; simp⟩
theorem all_yes {α : Type} {p : α → Bool} {l : List α} (h : ∀ j (hj : j < l.length), p l[j] = true) : l.all p = true := by
  rw [List.all_eq_true]
  intro x hx
  obtain ⟨j, hj, rfl⟩ := List.mem_iff_getElem.1 hx
  exact h j hj
theorem idxI_none {α : Type} {p : α → Bool} {l : List α} (h : ∀ j (hj : j < l.length), p l[j] = false) : idxI p l = -1 := by
  unfold idxI
  rw [any_no h]; rfl
theorem idxI_ge {α : Type} (p : α → Bool) (l : List α) : decide (0 ≤ idxI p l) = l.any p := by
  unfold idxI
  cases l.any p with
  | true => simp
  | false => simp
theorem any_not {α : Type} (p : α → Bool) (l : List α) : (!l.any fun x => !p x) = l.all p := by
  rw [List.all_eq_not_any_not]
def AllTo {α : Type} (p : α → Bool) (l : List α) (k : Nat) : Prop := ∀ j (hj : j < l.length), j < k → p l[j] = true
theorem allTo_zero {α : Type} {p : α → Bool} {l : List α} : AllTo p l 0 := fun _ _ h => by omega
theorem allTo_up {α : Type} {p : α → Bool} {l : List α} {k : Nat} (hk : k < l.length) (h : AllTo p l k) (h1 : p l[k] = true) : AllTo p l (k + 1) := fun j hj hjk => by
  by_cases e : j = k
  · subst e; exact h1
  · exact h j hj (by omega)
theorem allTo_end {α : Type} {p : α → Bool} {l : List α} {k : Nat} (h : AllTo p l k) (hk : l.length ≤ k) : l.all p = true := all_yes fun j hj => h j hj (by omega)
def EqTo {α β : Type} (f : α → β) (l m : List α) (k : Nat) : Prop := ∀ j (h1 : j < l.length) (h2 : j < m.length), j < k → f l[j] = f m[j]
theorem eqTo_zero {α β : Type} {f : α → β} {l m : List α} : EqTo f l m 0 := fun _ _ _ h => by omega
theorem eqTo_up {α β : Type} {f : α → β} {l m : List α} {k : Nat} (h1 : k < l.length) (h2 : k < m.length) (h : EqTo f l m k) (e : f l[k] = f m[k]) : EqTo f l m (k + 1) := fun j h1 h2 hjk => by
  by_cases e' : j = k
  · subst e'; exact e
  · exact h j h1 h2 (by omega)
theorem eqTo_end {α β : Type} {f : α → β} {l m : List α} {k : Nat} (hl : l.length = m.length) (h : EqTo f l m k) (hk : l.length ≤ k) : l.map f = m.map f :=
  List.ext_getElem (by simpa using hl) fun j h1 h2 => by simp at h1 h2 ⊢; exact h j h1 h2 (by omega)
theorem eqTo_endI {α : Type} {l m : List α} {k : Nat} (hl : l.length = m.length) (h : EqTo id l m k) (hk : l.length ≤ k) : l = m := by
  have := eqTo_end hl h hk
  simpa using this
theorem eqTo_no {α β : Type} {f : α → β} {l m : List α} {k : Nat} (h1 : k < l.length) (h2 : k < m.length) (e : ¬ f l[k] = f m[k]) : ¬ l.map f = m.map f := fun h => e (by
  have := congrArg (fun x => x[k]?) h
  simpa [h1, h2] using this)
theorem eqTo_noI {α : Type} {l m : List α} {k : Nat} (h1 : k < l.length) (h2 : k < m.length) (e : ¬ l[k] = m[k]) : ¬ l = m := fun h => e (by subst h; rfl)
end Go.Proofs.YtfbhcemlnojejaaDoor
namespace Go.Proofs.YtfbhcemlnojejaaDoor
set_option linter.unusedVariables false
set_option linter.unusedSimpArgs false
open Go
def ltC (a b : TransitC) : Prop := a.at_ < b.at_ ∨ (a.at_ = b.at_ ∧ a.seq < b.seq)
theorem netLe_at {a b : TransitC} (h : netLe a b = true) : a.at_ ≤ b.at_ := by
  unfold netLe at h
  rw [decide_eq_true_iff] at h
  omega
theorem chain_at : ∀ {l : List TransitC} {x : TransitC}, chain netLe (x :: l) = true → ∀ y ∈ l, x.at_ ≤ y.at_
  | [], _, _, _, h => by cases h
  | z :: l, x, h, y, hy => by
    rw [chain, Bool.and_eq_true] at h
    have h1 := netLe_at h.1
    rcases List.mem_cons.1 hy with rfl | hy
    · exact h1
    · exact Int.le_trans h1 (chain_at h.2 y hy)
theorem chain_tail {l : List TransitC} {x : TransitC} (h : chain netLe (x :: l) = true) : chain netLe l = true := by
  cases l with
  | nil => rfl
  | cons z l => rw [chain, Bool.and_eq_true] at h; exact h.2
abbrev early (A : Int) (l : List TransitC) : List TransitC := l.takeWhile fun t => decide (t.at_ ≤ A)
abbrev late (A : Int) (l : List TransitC) : List TransitC := l.dropWhile fun t => decide (t.at_ ≤ A)
theorem late_gt (A : Int) : ∀ {l : List TransitC}, chain netLe l = true → ∀ y ∈ late A l, A < y.at_
  | [], _, _, h => by simp [late] at h
  | x :: l, hc, y, hy => by
    unfold late at hy
    rw [List.dropWhile_cons] at hy
    by_cases h : x.at_ ≤ A
    · rw [if_pos (by simpa using h)] at hy
      exact late_gt A (chain_tail hc) y hy
    · rw [if_neg (by simpa using h)] at hy
      rcases List.mem_cons.1 hy with rfl | hy
      · omega
      · have := chain_at hc y hy; omega
theorem early_le (A : Int) : ∀ {l : List TransitC}, ∀ y ∈ early A l, y.at_ ≤ A
  | [], _, h => by simp [early] at h
  | x :: l, y, hy => by
    unfold early at hy
    rw [List.takeWhile_cons] at hy
    by_cases h : x.at_ ≤ A
    · rw [if_pos (by simpa using h)] at hy
      rcases List.mem_cons.1 hy with rfl | hy
      · exact h
      · exact early_le A y hy
    · rw [if_neg (by simpa using h)] at hy; cases hy
theorem early_mem {A : Int} {l : List TransitC} {y : TransitC} (h : y ∈ early A l) : y ∈ l := List.takeWhile_subset _ h
theorem early_late (A : Int) (l : List TransitC) : early A l ++ late A l = l := List.takeWhile_append_dropWhile
theorem copiesC_len (m : MsgC) (A S : Int) (k : Nat) : (copiesC m A S k).length = k := by simp [copiesC]
theorem copiesC_succ (m : MsgC) (A S : Int) (k : Nat) : copiesC m A S (k + 1) = copiesC m A S k ++ [⟨A, S + k, m⟩] := by
  unfold copiesC
  rw [List.range_succ, List.map_append]; rfl
theorem copiesC_get {m : MsgC} {A S : Int} {k i : Nat} (h : i < (copiesC m A S k).length) : (copiesC m A S k)[i] = ⟨A, S + i, m⟩ := by
  have h' : i < k := by rw [copiesC_len] at h; exact h
  have : (copiesC m A S k)[i]? = some ⟨A, S + i, m⟩ := by
    unfold copiesC
    rw [List.getElem?_map, List.getElem?_range h']; rfl
  exact Option.some.inj ((List.getElem?_eq_getElem h).symm.trans this)
theorem place_iff {X Y : List TransitC} {m m' : MsgC} {A S : Int} {k : Nat} (hX : ∀ x ∈ X, x.at_ ≤ A ∧ x.seq < S) (hY : ∀ y ∈ Y, A < y.at_) (j : Nat) (h : j < (X ++ copiesC m A S k ++ Y).length) : ltC (X ++ copiesC m A S k ++ Y)[j] ⟨A, S + k, m'⟩ ↔ j < X.length + k := by
  have hl : (X ++ copiesC m A S k).length = X.length + k := by rw [List.length_append, copiesC_len]
  by_cases h1 : j < X.length
  · rw [List.getElem_append_left (by omega), List.getElem_append_left h1]
    have := hX _ (List.getElem_mem h1)
    unfold ltC
    simp only
    omega
  · by_cases h2 : j < X.length + k
    · rw [List.getElem_append_left (by omega), List.getElem_append_right (by omega), copiesC_get]
      show (A < A ∨ (A = A ∧ S + ((j - X.length : Nat) : Int) < S + (k : Int))) ↔ _
      omega
    · rw [List.getElem_append_right (by omega)]
      have := hY _ (List.getElem_mem (by rw [List.length_append] at h; omega : j - (X ++ copiesC m A S k).length < Y.length))
      unfold ltC
      simp only
      omega
theorem put_copy (X Y : List TransitC) (m : MsgC) (A S : Int) (k : Nat) : (X ++ copiesC m A S k ++ Y).take (X.length + k) ++ ⟨A, S + k, m⟩ :: (X ++ copiesC m A S k ++ Y).drop (X.length + k) = X ++ copiesC m A S (k + 1) ++ Y := by
  have hl : (X ++ copiesC m A S k).length = X.length + k := by rw [List.length_append, copiesC_len]
  rw [← hl, List.take_left, List.drop_left, copiesC_succ]
  simp
end Go.Proofs.YtfbhcemlnojejaaDoor
namespace Go.Proofs.YtfbhcemlnojejaaDoor
set_option linter.unusedVariables false
set_option linter.unusedSimpArgs false
open Go
theorem netLe_ord {a b : TransitC} : netLe a b = true ↔ (a.at_ < b.at_ ∨ (a.at_ = b.at_ ∧ a.seq ≤ b.seq)) := by unfold netLe; rw [decide_eq_true_iff]
theorem netLe_trans {a b c : TransitC} (h : netLe a b = true) (k : netLe b c = true) : netLe a c = true := by
  rw [netLe_ord] at *
  omega
theorem chain_pw : ∀ l : List TransitC, chain netLe l = true ↔ l.Pairwise (fun a b => netLe a b = true)
  | [] => by simp [chain]
  | [x] => by simp [chain]
  | x :: y :: l => by
    rw [chain, Bool.and_eq_true, chain_pw (y :: l), List.pairwise_cons (a := x)]
    constructor
    · rintro ⟨h1, h2⟩
      refine ⟨fun z hz => ?_, h2⟩
      rcases List.mem_cons.1 hz with rfl | hz
      · exact h1
      · exact netLe_trans h1 ((List.pairwise_cons.1 h2).1 z hz)
    · rintro ⟨h1, h2⟩
      exact ⟨h1 y (List.Mem.head _), h2⟩
theorem netOK_pw (n : NetC) : netOK n = true ↔ (0 ≤ n.seq ∧ n.seq ≤ 1000000000) ∧ n.list.length ≤ 200 ∧ (∀ t ∈ n.list, transitOK n.seq t = true) ∧ n.list.Pairwise (fun a b => netLe a b = true) ∧ (n.list.map (·.seq)).Nodup := by
  unfold netOK
  simp only [Bool.and_eq_true, decide_eq_true_eq, List.all_eq_true, chain_pw, nodupI_iff, and_assoc]
theorem netOK_filter {n : NetC} (h : netOK n = true) (p : TransitC → Bool) : netOK ⟨n.seq, n.list.filter p⟩ = true := by
  rw [netOK_pw] at *
  obtain ⟨h1, h2, h3, h4, h5⟩ := h
  exact ⟨h1, Nat.le_trans (List.length_filter_le _ _) h2, fun t ht => h3 t (List.mem_filter.1 ht).1, h4.filter _, (List.filter_sublist.map _).nodup h5⟩
theorem filter_len {α : Type} (p : α → Bool) : ∀ l : List α, (l.filter fun t => !p t).length + (l.filter p).length = l.length
  | [] => rfl
  | x :: l => by
    have := filter_len p l
    cases hx : p x <;> simp [hx] <;> omega
theorem filter_sub {α : Type} {p q : α → Bool} (h : ∀ t, q t = true → p t = true) : ∀ l : List α, (l.filter p).length = ((l.filter fun t => !q t).filter p).length + (l.filter q).length
  | [] => rfl
  | x :: l => by
    have := filter_sub h l
    cases hx : q x
    · cases hp : p x
      · simp only [List.filter_cons, hx, hp, Bool.not_false, if_true, Bool.false_eq_true, if_false]; omega
      · simp only [List.filter_cons, hx, hp, Bool.not_false, if_true, Bool.false_eq_true, if_false, List.length_cons]; omega
    · simp only [List.filter_cons, hx, h x hx, Bool.not_true, if_true, Bool.false_eq_true, if_false, List.length_cons]; omega
theorem filter_out {α : Type} {p q : α → Bool} (h : ∀ t, p t = true → q t = false) (l : List α) : (l.filter fun t => !q t).filter p = l.filter p := by
  rw [List.filter_filter]
  apply List.filter_congr
  intro t _
  cases hp : p t
  · rfl
  · simp [h t hp]
theorem filter_none {α : Type} (q : α → Bool) (l : List α) : (l.filter fun t => !q t).filter q = [] := by
  rw [List.filter_filter]
  apply List.filter_eq_nil_iff.2
  intro t _
  cases q t <;> simp
theorem filter_idem {α : Type} (q : α → Bool) (l : List α) : (l.filter q).filter q = l.filter q := by
  rw [List.filter_filter]
  apply List.filter_congr
  intro t _
  cases q t <;> rfl
abbrev Asked (addr now : Int) : Prop := (1 ≤ addr ∧ addr ≤ 1000000) ∧ (0 ≤ now ∧ now ≤ 20000000)
theorem recv_err {n : NetC} {addr now : Int} (h : ¬ Asked addr now) : receiveC n addr now = (netNil, [], 1) := by
  unfold receiveC
  rw [if_pos]
  simp only [Bool.not_eq_true', Bool.eq_false_iff, ne_eq, Bool.and_eq_true, decide_eq_true_eq]
  intro h2
  exact h ⟨h2.1.2, h2.2⟩
theorem recv_ok {n : NetC} {addr now : Int} (hn : netOK n = true) (h : Asked addr now) : receiveC n addr now = (⟨n.seq, n.list.filter fun t => !hitC addr now t⟩, (n.list.filter (hitC addr now)).map (·.m), 0) := by
  unfold receiveC
  rw [if_neg]
  rw [hn, decide_eq_true h.1, decide_eq_true h.2]; decide
theorem hit_iff {addr now : Int} {t : TransitC} : hitC addr now t = true ↔ t.m.to = addr ∧ t.at_ ≤ now := by
  unfold hitC
  rw [Bool.and_eq_true, decide_eq_true_iff, decide_eq_true_iff]
/-- What a net is without what has arrived. -/
def restC (n : NetC) (addr now : Int) : NetC := ⟨n.seq, n.list.filter fun t => !hitC addr now t⟩
def gotC (n : NetC) (addr now : Int) : List MsgC := (n.list.filter (hitC addr now)).map (·.m)
theorem rest_ok {n : NetC} (h : netOK n = true) (addr now : Int) : netOK (restC n addr now) = true := netOK_filter h _
theorem rest_len (n : NetC) (addr now : Int) : (restC n addr now).list.length + (gotC n addr now).length = n.list.length := by
  unfold restC gotC
  rw [List.length_map]
  exact filter_len _ _
theorem got_again (n : NetC) (addr now : Int) : gotC (restC n addr now) addr now = [] := by
  unfold restC gotC
  rw [filter_none]; rfl
theorem got_other (n : NetC) {addr other : Int} (now later : Int) (h : other ≠ addr) : gotC (restC n addr now) other later = gotC n other later := by
  unfold restC gotC
  rw [filter_out]
  intro t ht
  rw [hit_iff] at ht
  rw [Bool.eq_false_iff, ne_eq, hit_iff]
  rintro ⟨h1, _⟩
  exact h (ht.1.symm.trans h1)
theorem got_later (n : NetC) (addr : Int) {now later : Int} (h : now ≤ later) : (gotC n addr later).length = (gotC (restC n addr now) addr later).length + (gotC n addr now).length := by
  unfold restC gotC
  simp only [List.length_map]
  refine filter_sub ?_ _
  intro t ht
  rw [hit_iff] at *
  omega
end Go.Proofs.YtfbhcemlnojejaaDoor
namespace Go.Proofs.YtfbhcemlnojejaaDoor
set_option linter.unusedVariables false
set_option linter.unusedSimpArgs false
open Go
theorem travels_to (m : MsgC) (f : Int) : (travelsC m f).to = m.to := by
  unfold travelsC
  split
  · rfl
  · split
    · rfl
    · split <;> rfl
theorem tmod_range {x k : Int} (h : 0 ≤ x) (hk : 0 < k) : 0 ≤ x.tmod k ∧ x.tmod k < k := by
  rw [Int.tmod_eq_emod_of_nonneg h]
  exact ⟨Int.emod_nonneg _ (by omega), Int.emod_lt_of_pos _ hk⟩
theorem msgOK_ands (m : MsgC) : msgOK m = true ↔ (0 ≤ m.id ∧ m.id ≤ 65535) ∧ (1 ≤ m.frm ∧ m.frm ≤ 1000000) ∧ (1 ≤ m.to ∧ m.to ≤ 1000000) ∧ questionOK m.q = true ∧ ((m.kind = 1 ∧ m.ans.kind = 0 ∧ m.ans.sets = [] ∧ m.ans.cut = []) ∨ (m.kind = 2 ∧ answerOK m.ans = true)) := by
  unfold msgOK
  by_cases h : m.kind = 1
  · simp [h, and_assoc]
  · simp [h, and_assoc]
theorem fateOK_iff (f : FateC) (k : Int) : fateOK f k = true ↔ (0 ≤ f.delay ∧ f.delay ≤ 100000) ∧ (1 ≤ f.copies ∧ f.copies ≤ 8) ∧ (0 ≤ f.forge ∧ f.forge ≤ 3) ∧ (f.forge ≠ 3 ∨ k = 2) := by
  unfold fateOK
  simp only [Bool.and_eq_true, Bool.or_eq_true, decide_eq_true_eq, and_assoc]
theorem msgOK_travels {m : MsgC} {f : Int} (h : msgOK m = true) (hf : f ≠ 3 ∨ m.kind = 2) : msgOK (travelsC m f) = true := by
  rw [msgOK_ands] at h
  obtain ⟨h1, h2, h3, h4, h5⟩ := h
  unfold travelsC
  split
  · rw [msgOK_ands]
    have := tmod_range (x := m.id + 1) (k := 65536) (by omega) (by omega)
    exact ⟨⟨this.1, by show (m.id + 1).tmod 65536 ≤ 65535; omega⟩, h2, h3, h4, h5⟩
  · split
    · rw [msgOK_ands]
      have := tmod_range (x := m.frm) (k := 1000000) (by omega) (by omega)
      exact ⟨h1, ⟨by show 1 ≤ m.frm.tmod 1000000 + 1; omega, by show m.frm.tmod 1000000 + 1 ≤ 1000000; omega⟩, h3, h4, h5⟩
    · split
      · rename_i h6
        rw [msgOK_ands]
        refine ⟨h1, h2, h3, h4, .inr ⟨?_, show answerOK ⟨6, [], []⟩ = true by decide⟩⟩
        rcases hf with hf | hf
        · exact absurd h6 hf
        · exact hf
      · rw [msgOK_ands]; exact ⟨h1, h2, h3, h4, h5⟩
/-- The net after the copies went. -/
def sentC (n : NetC) (m : MsgC) (A : Int) (k : Int) : NetC := ⟨n.seq + k, early A n.list ++ copiesC m A n.seq k.toNat ++ late A n.list⟩
structure SendOK (n : NetC) (m : MsgC) (now : Int) (f : FateC) : Prop where
  net : netOK n = true
  msg : msgOK m = true
  time : 0 ≤ now ∧ now ≤ 20000000
  fate : fateOK f m.kind = true
  at_ : now + f.delay ≤ 20000000
  seq : n.seq + f.copies ≤ 1000000000
  len : (n.list.length : Int) + f.copies ≤ 200
theorem send_cases (n : NetC) (m : MsgC) (now : Int) (f : FateC) (hl : f.lost = false) : (∃ e, sendC n m now f = (netNil, e) ∧ e ≠ 0) ∨ (SendOK n m now f ∧ sendC n m now f = (sentC n (travelsC m f.forge) (now + f.delay) f.copies, 0)) := by
  unfold sendC
  split
  · exact .inl ⟨1, rfl, by decide⟩
  · rename_i h1
    rw [hl, if_neg (by decide)]
    split
    · exact .inl ⟨2, rfl, by decide⟩
    · split
      · exact .inl ⟨41, rfl, by decide⟩
      · refine .inr ⟨?_, rfl⟩
        simp only [Bool.not_eq_true', Bool.not_eq_false, Bool.and_eq_true, decide_eq_true_eq] at h1
        exact ⟨h1.1.1.1, h1.1.1.2, h1.1.2, h1.2, by omega, by omega, by omega⟩
theorem copies_mem {m : MsgC} {A S : Int} {k : Nat} {t : TransitC} (h : t ∈ copiesC m A S k) : ∃ i, i < k ∧ t = ⟨A, S + (i : Int), m⟩ := by
  unfold copiesC at h
  obtain ⟨i, hi, rfl⟩ := List.mem_map.1 h
  exact ⟨i, List.mem_range.1 hi, rfl⟩
theorem copies_pw (m : MsgC) (A S : Int) : ∀ k, (copiesC m A S k).Pairwise (fun a b => netLe a b = true)
  | 0 => List.Pairwise.nil
  | k + 1 => by
    rw [copiesC_succ, List.pairwise_append]
    refine ⟨copies_pw m A S k, List.pairwise_singleton _ _, fun a ha b hb => ?_⟩
    obtain ⟨i, hi, rfl⟩ := copies_mem ha
    obtain rfl := List.mem_singleton.1 hb
    rw [netLe_ord]
    right
    exact ⟨rfl, by show S + (i : Int) ≤ S + (k : Int); omega⟩
theorem copies_seq_nodup (m : MsgC) (A S : Int) : ∀ k, ((copiesC m A S k).map (·.seq)).Nodup
  | 0 => List.Pairwise.nil
  | k + 1 => by
    rw [copiesC_succ, List.map_append, List.nodup_append]
    refine ⟨copies_seq_nodup m A S k, by simp, fun a ha b hb => ?_⟩
    obtain ⟨t, ht, rfl⟩ := List.mem_map.1 ha
    obtain ⟨i, hi, rfl⟩ := copies_mem ht
    obtain rfl := List.mem_singleton.1 hb
    show S + (i : Int) ≠ S + (k : Int)
    omega
theorem sent_len (n : NetC) (m : MsgC) (A k : Int) (hk : 0 ≤ k) : ((sentC n m A k).list.length : Int) = (n.list.length : Int) + k := by
  have h : (early A n.list).length + (late A n.list).length = n.list.length := by
    rw [← List.length_append, early_late]
  show ((early A n.list ++ copiesC m A n.seq k.toNat ++ late A n.list).length : Int) = _
  rw [List.length_append, List.length_append, copiesC_len]
  omega
theorem sent_ok {n : NetC} {m : MsgC} {now : Int} {f : FateC} (h : SendOK n m now f) : netOK (sentC n (travelsC m f.forge) (now + f.delay) f.copies) = true := by
  obtain ⟨hn, hm, hnow, hf, hat, hseq, hlen⟩ := h
  rw [fateOK_iff] at hf
  have hfl := sent_len n (travelsC m f.forge) (now + f.delay) f.copies (by omega)
  rw [netOK_pw] at hn ⊢
  obtain ⟨h1, h2, h3, h4, h5⟩ := hn
  have hc := (chain_pw _).2 h4
  have hm' : msgOK (travelsC m f.forge) = true := msgOK_travels hm hf.2.2.2
  have h3' : ∀ t ∈ n.list, (0 ≤ t.at_ ∧ t.at_ ≤ 20000000) ∧ (0 ≤ t.seq ∧ t.seq < n.seq) ∧ msgOK t.m = true := fun t ht => by
    have := h3 t ht
    unfold transitOK at this
    simpa [and_assoc] using this
  have hw : (early (now + f.delay) n.list).Sublist n.list := List.takeWhile_sublist _
  have hl : (late (now + f.delay) n.list).Sublist n.list := List.dropWhile_sublist _
  refine ⟨⟨by show 0 ≤ n.seq + f.copies; omega, hseq⟩, ?_, ?_, ?_, ?_⟩
  · omega
  · intro t ht
    have ht' : t ∈ early (now + f.delay) n.list ∨ t ∈ copiesC (travelsC m f.forge) (now + f.delay) n.seq f.copies.toNat ∨ t ∈ late (now + f.delay) n.list := by
      have : t ∈ early (now + f.delay) n.list ++ copiesC (travelsC m f.forge) (now + f.delay) n.seq f.copies.toNat ++ late (now + f.delay) n.list := ht
      simpa [or_assoc] using this
    show transitOK (n.seq + f.copies) t = true
    have old : t ∈ n.list → transitOK (n.seq + f.copies) t = true := fun hx => by
      obtain ⟨a, b, c⟩ := h3' t hx
      unfold transitOK
      simp only [Bool.and_eq_true, decide_eq_true_eq]
      exact ⟨⟨a, by omega⟩, c⟩
    rcases ht' with hx | hx | hx
    · exact old (hw.subset hx)
    · obtain ⟨i, hi, rfl⟩ := copies_mem hx
      unfold transitOK
      simp only [Bool.and_eq_true, decide_eq_true_eq]
      exact ⟨⟨by omega, by omega⟩, hm'⟩
    · exact old (hl.subset hx)
  · show (early (now + f.delay) n.list ++ copiesC (travelsC m f.forge) (now + f.delay) n.seq f.copies.toNat ++ late (now + f.delay) n.list).Pairwise _
    rw [List.pairwise_append, List.pairwise_append]
    refine ⟨⟨h4.sublist hw, copies_pw _ _ _ _, fun a ha b hb => ?_⟩, h4.sublist hl, fun a ha b hb => ?_⟩
    · obtain ⟨i, hi, rfl⟩ := copies_mem hb
      have e1 := early_le (now + f.delay) a ha
      have e2 := (h3' a (hw.subset ha)).2.1
      rw [netLe_ord]
      show a.at_ < now + f.delay ∨ (a.at_ = now + f.delay ∧ a.seq ≤ n.seq + (i : Int))
      omega
    · have e1 := late_gt (now + f.delay) hc b hb
      rw [netLe_ord]
      left
      rcases List.mem_append.1 ha with ha | ha
      · have := early_le (now + f.delay) a ha; omega
      · obtain ⟨i, hi, rfl⟩ := copies_mem ha
        exact e1
  · show ((early (now + f.delay) n.list ++ copiesC (travelsC m f.forge) (now + f.delay) n.seq f.copies.toNat ++ late (now + f.delay) n.list).map (·.seq)).Nodup
    have hsplit : ((early (now + f.delay) n.list).map (·.seq) ++ (late (now + f.delay) n.list).map (·.seq)).Nodup := by
      rw [← List.map_append, early_late]; exact h5
    rw [List.nodup_append] at hsplit
    rw [List.map_append, List.map_append, List.nodup_append, List.nodup_append]
    refine ⟨⟨hsplit.1, copies_seq_nodup _ _ _ _, fun a ha b hb => ?_⟩, hsplit.2.1, fun a ha b hb => ?_⟩
    · obtain ⟨t, ht, rfl⟩ := List.mem_map.1 ha
      obtain ⟨u, hu, rfl⟩ := List.mem_map.1 hb
      obtain ⟨i, hi, rfl⟩ := copies_mem hu
      have := (h3' t (hw.subset ht)).2.1
      show t.seq ≠ n.seq + (i : Int)
      omega
    · rcases List.mem_append.1 ha with ha | ha
      · exact hsplit.2.2 a ha b hb
      · obtain ⟨u, hu, rfl⟩ := List.mem_map.1 ha
        obtain ⟨i, hi, rfl⟩ := copies_mem hu
        obtain ⟨t, ht, rfl⟩ := List.mem_map.1 hb
        have := (h3' t (hl.subset ht)).2.1
        show n.seq + (i : Int) ≠ t.seq
        omega
/-! ### what arrives of it -/
theorem filter_copies (m : MsgC) (A S addr at_ : Int) (k : Nat) : (copiesC m A S k).filter (hitC addr at_) = if m.to = addr ∧ A ≤ at_ then copiesC m A S k else [] := by
  split
  · rename_i h
    rw [List.filter_eq_self]
    intro t ht
    obtain ⟨i, _, rfl⟩ := copies_mem ht
    rw [hit_iff]; exact h
  · rename_i h
    rw [List.filter_eq_nil_iff]
    intro t ht
    obtain ⟨i, _, rfl⟩ := copies_mem ht
    rw [hit_iff]; exact h
theorem got_sent (n : NetC) (m : MsgC) (A k addr at_ : Int) : gotC (sentC n m A k) addr at_ = ((early A n.list).filter (hitC addr at_)).map (·.m) ++ (if m.to = addr ∧ A ≤ at_ then List.replicate k.toNat m else []) ++ ((late A n.list).filter (hitC addr at_)).map (·.m) := by
  unfold gotC sentC
  simp only [List.filter_append, List.map_append]
  rw [filter_copies]
  congr 2
  split
  · unfold copiesC
    rw [List.map_map]
    show (List.range k.toNat).map (fun _ => m) = _
    rw [List.map_const', List.length_range]
  · rfl
theorem got_split (n : NetC) (A addr at_ : Int) : gotC n addr at_ = ((early A n.list).filter (hitC addr at_)).map (·.m) ++ ((late A n.list).filter (hitC addr at_)).map (·.m) := by
  unfold gotC
  rw [← List.map_append, ← List.filter_append, early_late]
theorem got_before (n : NetC) (m : MsgC) {A at_ : Int} (k addr : Int) (h : at_ < A) : gotC (sentC n m A k) addr at_ = gotC n addr at_ := by
  rw [got_sent, got_split n A, if_neg (by omega), List.append_nil]
theorem got_len (n : NetC) (m : MsgC) {A at_ k addr : Int} (ht : m.to = addr) (h : A ≤ at_) (hk : 0 ≤ k) : ((gotC (sentC n m A k) addr at_).length : Int) = ((gotC n addr at_).length : Int) + k := by
  rw [got_sent, got_split n A, if_pos ⟨ht, h⟩]
  simp only [List.length_append, List.length_replicate]
  omega
theorem got_count (n : NetC) (m : MsgC) {A at_ k addr : Int} (ht : m.to = addr) (h : A ≤ at_) (hk : 0 ≤ k) : (((gotC (sentC n m A k) addr at_).filter fun x => decide (x = m)).length : Int) = (((gotC n addr at_).filter fun x => decide (x = m)).length : Int) + k := by
  rw [got_sent, got_split n A, if_pos ⟨ht, h⟩]
  have e : (List.replicate k.toNat m).filter (fun x => decide (x = m)) = List.replicate k.toNat m := by
    rw [List.filter_eq_self]
    intro t ht
    rw [(List.mem_replicate.1 ht).2]; simp
  simp only [List.filter_append, List.length_append, e, List.length_replicate]
  omega
/-! ### two that are sent -/
theorem nil_ok {n : NetC} (h : netOK n = true) : netOK ⟨n.seq, []⟩ = true := by
  rw [netOK_pw] at h ⊢
  exact ⟨h.1, by simp, by simp, by simp, by simp⟩
theorem sent_one (s : Int) (m : MsgC) (A : Int) : sentC ⟨s, []⟩ m A 1 = ⟨s + 1, [⟨A, s, m⟩]⟩ := by
  unfold sentC copiesC early late
  simp
theorem sent_two (s : Int) (m k : MsgC) (A B : Int) : sentC ⟨s + 1, [⟨A, s, m⟩]⟩ k B 1 = ⟨s + 1 + 1, if A ≤ B then [⟨A, s, m⟩, ⟨B, s + 1, k⟩] else [⟨B, s + 1, k⟩, ⟨A, s, m⟩]⟩ := by
  unfold sentC copiesC early late
  by_cases h : A ≤ B
  · simp [h]
  · simp [h]
theorem travels_zero (m : MsgC) : travelsC m 0 = m := rfl
theorem got_two (s : Int) (m k : MsgC) (A B at_ addr : Int) (h1 : m.to = addr) (h2 : k.to = addr) (ha : A ≤ at_) (hb : B ≤ at_) : gotC (sentC ⟨s + 1, [⟨A, s, m⟩]⟩ k B 1) addr at_ = if B < A then [k, m] else [m, k] := by
  rw [sent_two]
  unfold gotC
  by_cases h : A ≤ B
  · rw [if_pos h, if_neg (by omega)]
    simp [hitC, h1, h2, ha, hb]
  · rw [if_neg h, if_pos (by omega)]
    simp [hitC, h1, h2, ha, hb]
end Go.Proofs.YtfbhcemlnojejaaDoor
