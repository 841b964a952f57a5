/- Plain laws: what a net keeps when something is received, and what a filter leaves. -/
import Derived.Test.YteehdjpjhdmldaaDoorSpec4
namespace Go.Proofs.YteehdjpjhdmldaaDoor
set_option linter.unusedVariables false
set_option linter.unusedSimpArgs false
open Go
theorem netLe_ord {a b : TransitC} : netLe a b = true ↔ (a.at_ < b.at_ ∨ (a.at_ = b.at_ ∧ a.seq ≤ b.seq)) := by unfold netLe; rw [decide_eq_true_iff]
theorem netLe_trans {a b c : TransitC} (h : netLe a b = true) (k : netLe b c = true) : netLe a c = true := by
  rw [netLe_ord] at *
  omega
theorem chain_pw : ∀ l : List TransitC, chain netLe l = true ↔ l.Pairwise (fun a b => netLe a b = true)
  | [] => by simp [chain]
  | [x] => by simp [chain]
  | x :: y :: l => by
    rw [chain, Bool.and_eq_true, chain_pw (y :: l), List.pairwise_cons (a := x)]
    constructor
    · rintro ⟨h1, h2⟩
      refine ⟨fun z hz => ?_, h2⟩
      rcases List.mem_cons.1 hz with rfl | hz
      · exact h1
      · exact netLe_trans h1 ((List.pairwise_cons.1 h2).1 z hz)
    · rintro ⟨h1, h2⟩
      exact ⟨h1 y (List.Mem.head _), h2⟩
theorem netOK_pw (n : NetC) : netOK n = true ↔ (0 ≤ n.seq ∧ n.seq ≤ 1000000000) ∧ n.list.length ≤ 200 ∧ (∀ t ∈ n.list, transitOK n.seq t = true) ∧ n.list.Pairwise (fun a b => netLe a b = true) ∧ (n.list.map (·.seq)).Nodup := by
  unfold netOK
  simp only [Bool.and_eq_true, decide_eq_true_eq, List.all_eq_true, chain_pw, nodupI_iff, and_assoc]
theorem netOK_filter {n : NetC} (h : netOK n = true) (p : TransitC → Bool) : netOK ⟨n.seq, n.list.filter p⟩ = true := by
  rw [netOK_pw] at *
  obtain ⟨h1, h2, h3, h4, h5⟩ := h
  exact ⟨h1, Nat.le_trans (List.length_filter_le _ _) h2, fun t ht => h3 t (List.mem_filter.1 ht).1, h4.filter _, (List.filter_sublist.map _).nodup h5⟩
theorem filter_len {α : Type} (p : α → Bool) : ∀ l : List α, (l.filter fun t => !p t).length + (l.filter p).length = l.length
  | [] => rfl
  | x :: l => by
    have := filter_len p l
    cases hx : p x <;> simp [hx] <;> omega
theorem filter_sub {α : Type} {p q : α → Bool} (h : ∀ t, q t = true → p t = true) : ∀ l : List α, (l.filter p).length = ((l.filter fun t => !q t).filter p).length + (l.filter q).length
  | [] => rfl
  | x :: l => by
    have := filter_sub h l
    cases hx : q x
    · cases hp : p x
      · simp only [List.filter_cons, hx, hp, Bool.not_false, if_true, Bool.false_eq_true, if_false]; omega
      · simp only [List.filter_cons, hx, hp, Bool.not_false, if_true, Bool.false_eq_true, if_false, List.length_cons]; omega
    · simp only [List.filter_cons, hx, h x hx, Bool.not_true, if_true, Bool.false_eq_true, if_false, List.length_cons]; omega
theorem filter_out {α : Type} {p q : α → Bool} (h : ∀ t, p t = true → q t = false) (l : List α) : (l.filter fun t => !q t).filter p = l.filter p := by
  rw [List.filter_filter]
  apply List.filter_congr
  intro t _
  cases hp : p t
  · rfl
  · simp [h t hp]
theorem filter_none {α : Type} (q : α → Bool) (l : List α) : (l.filter fun t => !q t).filter q = [] := by
  rw [List.filter_filter]
  apply List.filter_eq_nil_iff.2
  intro t _
  cases q t <;> simp
theorem filter_idem {α : Type} (q : α → Bool) (l : List α) : (l.filter q).filter q = l.filter q := by
  rw [List.filter_filter]
  apply List.filter_congr
  intro t _
  cases q t <;> rfl
abbrev Asked (addr now : Int) : Prop := (1 ≤ addr ∧ addr ≤ 1000000) ∧ (0 ≤ now ∧ now ≤ 20000000)
theorem recv_err {n : NetC} {addr now : Int} (h : ¬ Asked addr now) : receiveC n addr now = (netNil, [], 1) := by
  unfold receiveC
  rw [if_pos]
  simp only [Bool.not_eq_true', Bool.eq_false_iff, ne_eq, Bool.and_eq_true, decide_eq_true_eq]
  intro h2
  exact h ⟨h2.1.2, h2.2⟩
theorem recv_ok {n : NetC} {addr now : Int} (hn : netOK n = true) (h : Asked addr now) : receiveC n addr now = (⟨n.seq, n.list.filter fun t => !hitC addr now t⟩, (n.list.filter (hitC addr now)).map (·.m), 0) := by
  unfold receiveC
  rw [if_neg]
  rw [hn, decide_eq_true h.1, decide_eq_true h.2]; decide
theorem hit_iff {addr now : Int} {t : TransitC} : hitC addr now t = true ↔ t.m.to = addr ∧ t.at_ ≤ now := by
  unfold hitC
  rw [Bool.and_eq_true, decide_eq_true_iff, decide_eq_true_iff]
/-- What a net is without what has arrived. -/
def restC (n : NetC) (addr now : Int) : NetC := ⟨n.seq, n.list.filter fun t => !hitC addr now t⟩
def gotC (n : NetC) (addr now : Int) : List MsgC := (n.list.filter (hitC addr now)).map (·.m)
theorem rest_ok {n : NetC} (h : netOK n = true) (addr now : Int) : netOK (restC n addr now) = true := netOK_filter h _
theorem rest_len (n : NetC) (addr now : Int) : (restC n addr now).list.length + (gotC n addr now).length = n.list.length := by
  unfold restC gotC
  rw [List.length_map]
  exact filter_len _ _
theorem got_again (n : NetC) (addr now : Int) : gotC (restC n addr now) addr now = [] := by
  unfold restC gotC
  rw [filter_none]; rfl
theorem got_other (n : NetC) {addr other : Int} (now later : Int) (h : other ≠ addr) : gotC (restC n addr now) other later = gotC n other later := by
  unfold restC gotC
  rw [filter_out]
  intro t ht
  rw [hit_iff] at ht
  rw [Bool.eq_false_iff, ne_eq, hit_iff]
  rintro ⟨h1, _⟩
  exact h (ht.1.symm.trans h1)
theorem got_later (n : NetC) (addr : Int) {now later : Int} (h : now ≤ later) : (gotC n addr later).length = (gotC (restC n addr now) addr later).length + (gotC n addr now).length := by
  unfold restC gotC
  simp only [List.length_map]
  refine filter_sub ?_ _
  intro t ht
  rw [hit_iff] at *
  omega
end Go.Proofs.YteehdjpjhdmldaaDoor
