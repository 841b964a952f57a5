/- Walks: a set that is read. -/
import Derived.Test.YtogcofeencgipaaGreatDoorSPG
import Derived.Test.YtogcofeencgipaaGreatDoorSTC
namespace Go.Proofs.YtogcofeencgipaaGreatDoor
set_option linter.unusedVariables false
set_option linter.unusedSimpArgs false
open Go Go.RowKit
set_option maxRecDepth 20000
theorem readsTo_bind {α : Type} {rd : Bytes → Option (α × Bytes)} {d x : α} {st st' : Option Bytes} (h : readsTo rd d st x st') : st.bind rd = st'.map fun r => (x, r) := by
  unfold readsTo at h
  cases hb : st.bind rd with
  | none => rw [hb] at h; rw [h.2]; rfl
  | some p =>
    rw [hb] at h
    obtain ⟨h1, h2⟩ := h
    rw [h2, h1]
    rfl
theorem countR_small {α : Type} (f : Nat → Bytes → Option (α × Bytes)) (b : Bytes) : countR f b = (smallR b).bind fun p => f p.1 p.2 := by cases b <;> rfl
theorem set_rd {b : Bytes} {nm : Bytes} {ty li : Int} {n : Nat} {ds : List Datum} {st1 st2 st3 st4 st5 : Option Bytes} (h1 : textCod.rd b = st1.map fun r => (nm, r)) (h2 : st1.bind numCod.rd = st2.map fun r => (ty, r)) (h3 : st2.bind numCod.rd = st3.map fun r => (li, r)) (h4 : st3.bind smallR = st4.map fun r => (n, r)) (h5 : st4.bind (datumCod.rdN n) = st5.map fun r => (ds, r)) : setCod.rd b = st5.map fun r => (⟨nm, ty, li, ds⟩, r) := by
  show (((textCod.rd b).bind fun p => (((numCod.rd p.2).bind fun q => (((numCod.rd q.2).bind fun r => (countR datumCod.rdN r.2).map fun t => ((r.1, t.1), t.2))).map fun t => ((q.1, t.1), t.2))).map fun t => ((p.1, t.1), t.2))).map _ = _
  simp only [countR_small]
  cases st1 with
  | none =>
    have e2 : st2 = none := by cases st2 <;> simp_all
    have e3 : st3 = none := by subst e2; cases st3 <;> simp_all
    have e4 : st4 = none := by subst e3; cases st4 <;> simp_all
    have e5 : st5 = none := by subst e4; cases st5 <;> simp_all
    rw [h1, e5]; rfl
  | some r1 =>
    cases st2 with
    | none =>
      have e3 : st3 = none := by cases st3 <;> simp_all
      have e4 : st4 = none := by subst e3; cases st4 <;> simp_all
      have e5 : st5 = none := by subst e4; cases st5 <;> simp_all
      simp only [Option.bind_some, Option.map_none] at h2
      rw [h1, e5]; simp [h2]
    | some r2 =>
      cases st3 with
      | none =>
        have e4 : st4 = none := by cases st4 <;> simp_all
        have e5 : st5 = none := by subst e4; cases st5 <;> simp_all
        simp only [Option.bind_some, Option.map_none, Option.map_some] at h2 h3
        rw [h1, e5]; simp [h2, h3]
      | some r3 =>
        cases st4 with
        | none =>
          have e5 : st5 = none := by cases st5 <;> simp_all
          simp only [Option.bind_some, Option.map_none, Option.map_some] at h2 h3 h4
          rw [h1, e5]; simp [h2, h3, h4]
        | some r4 =>
          simp only [Option.bind_some, Option.map_some] at h2 h3 h4 h5
          rw [h1]
          cases st5 with
          | none => simp only [Option.map_none] at h5; simp [h2, h3, h4, h5]
          | some r5 => simp only [Option.map_some] at h5; simp [h2, h3, h4, h5]
theorem rdN_succ {α : Type} (c : Cod α) : ∀ (k : Nat) (b : Bytes), c.rdN (k + 1) b = (c.rdN k b).bind fun p => (c.rd p.2).map fun q => (p.1 ++ [q.1], q.2)
  | 0, b => by
    show (c.rd b).bind (fun p => (some ([], p.2)).map fun q => (p.1 :: q.1, q.2)) = (c.rd b).map fun q => (([] : List α) ++ [q.1], q.2)
    cases c.rd b <;> rfl
  | k + 1, b => by
    have ih := rdN_succ c k
    show (c.rd b).bind (fun p => (c.rdN (k + 1) p.2).map fun q => (p.1 :: q.1, q.2)) = ((c.rd b).bind fun p => (c.rdN k p.2).map fun q => (p.1 :: q.1, q.2)).bind _
    cases c.rd b with
    | none => rfl
    | some p =>
      simp only [Option.bind_some]
      rw [ih]
      cases c.rdN k p.2 with
      | none => rfl
      | some q =>
        simp only [Option.bind_some, Option.map_some]
        cases c.rd q.2 <;> rfl
theorem rdN_none {α : Type} {c : Cod α} {k : Nat} {b : Bytes} (h : c.rdN k b = none) : ∀ {n : Nat}, k ≤ n → c.rdN n b = none
  | 0, hn => by rw [show k = 0 by omega] at h; exact h
  | n + 1, hn => by
    by_cases e : k = n + 1
    · rw [← e]; exact h
    · rw [rdN_succ, rdN_none h (n := n) (by omega)]; rfl
theorem textR_len {st st' : Option Bytes} {x : Bytes} (h : readsTo textCod.rd [] st x st') : x.length ≤ 255 := by
  unfold readsTo at h
  cases hb : st.bind textCod.rd with
  | none => rw [hb] at h; rw [h.1]; exact Nat.zero_le _
  | some p =>
    rw [hb] at h
    rw [h.1]
    cases st with
    | none => cases hb
    | some r =>
      cases r with
      | nil => cases hb
      | cons c r =>
        have hb : takeR c.toNat r = some (p.1, p.2) := hb
        have := (takeR_some.1 hb).1
        have := c.toNat_lt
        omega
theorem intOf_i64 {n : Nat} (h : n < 18446744073709551616) : I64 (intOf n) := by
  unfold intOf
  split <;> (constructor <;> omega)
theorem numR_i64 {st st' : Option Bytes} {x : Int} (h : readsTo numCod.rd 0 st x st') : I64 x := by
  unfold readsTo at h
  cases hb : st.bind numCod.rd with
  | none => rw [hb] at h; rw [h.1]; decide
  | some p =>
    rw [hb] at h
    rw [h.1]
    cases st with
    | none => cases hb
    | some r =>
      have hb : (wordCod.rd r).map (fun p => (intOf p.1, p.2)) = some p := hb
      cases hw : wordCod.rd r with
      | none => rw [hw] at hb; cases hb
      | some q =>
        rw [hw] at hb
        simp only [Option.map_some, Option.some.injEq] at hb
        rw [← hb]
        obtain ⟨q1, q2⟩ := q
        exact intOf_i64 (word_lt hw)
theorem smallR_lt {st st' : Option Bytes} {x : Nat} (h : readsTo smallR 0 st x st') : x < 256 ∧ (st' = none → x = 0) := by
  unfold readsTo at h
  cases hb : st.bind smallR with
  | none => rw [hb] at h; rw [h.1]; exact ⟨by decide, fun _ => rfl⟩
  | some p =>
    rw [hb] at h
    rw [h.1, h.2]
    refine ⟨?_, fun h => by cases h⟩
    cases st with
    | none => cases hb
    | some r =>
      cases r with
      | nil => cases hb
      | cons c r =>
        simp [smallR] at hb
        rw [← hb]
        exact c.toNat_lt
theorem datum_rd {b : Bytes} {tx : Bytes} {n m : Int} {st1 st2 st3 : Option Bytes} (h1 : textCod.rd b = st1.map fun r => (tx, r)) (h2 : st1.bind numCod.rd = st2.map fun r => (n, r)) (h3 : st2.bind numCod.rd = st3.map fun r => (m, r)) : datumCod.rd b = st3.map fun r => (⟨tx, n, m⟩, r) := by
  show (((textCod.rd b).bind fun p => (((numCod.rd p.2).bind fun q => (numCod.rd q.2).map fun t => ((q.1, t.1), t.2))).map fun t => ((p.1, t.1), t.2))).map _ = _
  cases st1 with
  | none =>
    have e2 : st2 = none := by cases st2 <;> simp_all
    have e3 : st3 = none := by subst e2; cases st3 <;> simp_all
    rw [h1, e3]; rfl
  | some r1 =>
    cases st2 with
    | none =>
      have e3 : st3 = none := by cases st3 <;> simp_all
      simp only [Option.bind_some, Option.map_none] at h2
      rw [h1, e3]; simp [h2]
    | some r2 =>
      simp only [Option.bind_some, Option.map_some] at h2 h3
      rw [h1]
      cases st3 with
      | none => simp only [Option.map_none] at h3; simp [h2, h3]
      | some r3 => simp only [Option.map_some] at h3; simp [h2, h3]
theorem rdN_step {α : Type} {c : Cod α} {st st' : Option Bytes} {k : Nat} {l : List α} {r : Bytes} {x : α} (h : st.bind (c.rdN k) = some (l, r)) (hx : c.rd r = st'.map fun r => (x, r)) : st.bind (c.rdN (k + 1)) = st'.map fun r => (l ++ [x], r) := by
  cases st with
  | none => cases h
  | some b =>
    simp only [Option.bind_some] at h ⊢
    rw [rdN_succ, h]
    simp only [Option.bind_some]
    rw [hx]
    cases st' <;> rfl
theorem rdN_stop {α : Type} {c : Cod α} {st : Option Bytes} {k n : Nat} (h : st.bind (c.rdN k) = none) (hn : k ≤ n) : st.bind (c.rdN n) = none := by
  cases st with
  | none => rfl
  | some b => exact rdN_none (show c.rdN k b = none from h) hn
def rsetNil : RSet := ⟨[], 0, 0, Slc.nil _⟩
/-- What the reader of a set gives. -/
def ReadSet (H : Hp) (b : Bytes) (x : RSet) (e : Int) : Prop := Enc.good H x ∧ ((readSet b = some x.c ∧ e = 0) ∨ (readSet b = none ∧ x = rsetNil ∧ e = 10))
end Go.Proofs.YtogcofeencgipaaGreatDoor
