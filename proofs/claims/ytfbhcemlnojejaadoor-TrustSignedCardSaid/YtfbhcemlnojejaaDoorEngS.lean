/-
  The engine: data in the heap that nobody writes: a type's cells, slices of them; the rules for elements.
-/
import Derived.Test.YtfbhcemlnojejaaDoorEngG
namespace Go.Proofs.YtfbhcemlnojejaaDoor
set_option linter.unusedVariables false
set_option linter.unusedSimpArgs false
open Go Go.RowKit

abbrev I64 (x : Int) : Prop := -9223372036854775808 ≤ x ∧ x ≤ 9223372036854775807
/-- How a type's values lie in cells. -/
class Enc (α : Type) where
  size : Nat
  enc : α → List Value
  good : Hp → α → Prop
  len : ∀ x, (enc x).length = size
  mono : ∀ {H H' : Hp} {x}, H.le H' → good H x → good H' x
  one : ∀ x, (enc x).all (·.oneCell') = true
  pos : 0 < size
open Enc (enc)
/-- A slice: where it lies, and its elements. -/
structure Slc (α : Type) where
  A : Option Addr
  len : Nat
  cap : Nat
  els : List α
def Slc.b {α : Type} (s : Slc α) : Nat := (s.A.getD ⟨0, 0, none⟩).block
def Slc.o {α : Type} (s : Slc α) : Nat := (s.A.getD ⟨0, 0, none⟩).off
abbrev Slc.v {α : Type} (s : Slc α) : Value := .slice s.A s.len s.cap
structure Slc.Good {α : Type} [Enc α] (s : Slc α) (H : Hp) : Prop where
  len : s.els.length = s.len
  cap : s.len ≤ s.cap
  big : s.cap ≤ 9223372036854775807
  at_ : 0 < s.len → s.A = some ⟨s.b, s.o, none⟩
  cells : ∀ k x, s.els[k]? = some x → H.cells s.b (s.o + k * Enc.size α) (enc x)
  els : ∀ x ∈ s.els, Enc.good H x
section
variable {α : Type} [Enc α] {s : Slc α} {H H' : Hp}
theorem Slc.Good.lim (h : s.Good H) : s.len ≤ 9223372036854775807 := Nat.le_trans h.cap h.big
theorem Slc.Good.mono (h : s.Good H) (hle : H.le H') : s.Good H' :=
  ⟨h.len, h.cap, h.big, h.at_, fun k x hk => Hp.cells_le hle (h.cells k x hk), fun x hx => Enc.mono hle (h.els x hx)⟩
theorem Slc.Good.row (h : s.Good H) {k : Nat} (hk : k < s.len) : H.cells s.b (s.o + k * Enc.size α) (enc (s.els[k]'(by rw [h.len]; exact hk))) :=
  h.cells k _ (List.getElem?_eq_getElem _)
theorem Slc.Good.cell (h : s.Good H) {k j : Nat} (hk : k < s.len) {v : Value} (hv : (enc (s.els[k]'(by rw [h.len]; exact hk)))[j]? = some v) : H.cell s.b (s.o + k * Enc.size α + j) = some v :=
  h.row hk j v hv
theorem Slc.Good.cell0 (h : s.Good H) {k : Nat} (hk : k < s.len) {v : Value} (hv : (enc (s.els[k]'(by rw [h.len]; exact hk)))[0]? = some v) : H.cell s.b (s.o + k * Enc.size α) = some v :=
  h.row hk 0 v hv
theorem Slc.Good.part (h : s.Good H) {k j m : Nat} (hk : k < s.len) {vs : List Value} (hv : ((enc (s.els[k]'(by rw [h.len]; exact hk))).drop j).take m = vs) : H.cells s.b (s.o + k * Enc.size α + j) vs := fun i v hi => by
  rw [← hv, List.getElem?_take] at hi
  by_cases him : i < m
  · rw [if_pos him, List.getElem?_drop] at hi
    rw [Nat.add_assoc]
    exact h.row hk (j + i) v hi
  · rw [if_neg him] at hi; cases hi
theorem Slc.Good.el (h : s.Good H) {k : Nat} (hk : k < s.len) : Enc.good H (s.els[k]'(by rw [h.len]; exact hk)) := h.els _ (List.getElem_mem _)
def Slc.nil (α : Type) : Slc α := ⟨none, 0, 0, []⟩
theorem Slc.nil_good : (Slc.nil α).Good H := ⟨rfl, Nat.le_refl _, by simp [Slc.nil], fun h => by simp [Slc.nil] at h, fun k x h => by simp [Slc.nil] at h, fun x h => by simp [Slc.nil] at h⟩
end

section
variable {P : Program} {n : FK} {w0 : World} {H0 H : Hp} {S : World → Prop} {env : List (Nat × Value)} {L : List Loc}
/-- The address of an element. -/
theorem V.elem [Tys P] {t e : TypeId} {x y : Operand} {A : Option Addr} {b o m c j : Nat} {i : Int} {k ke : TyK} {ik : IntKind} (hk : tyk P t = some k) (hd : k.desc = .slice e) (hke : tyk P e = some ke) (hx : ev env x = some (.slice A m c)) (hy : ev env y = some (.int ik i)) (hi : i = (j : Int)) (h1 : j < m) (hA : A = some ⟨b, o, none⟩) :
    V P n S env (.indexAddr t x y) (.pointer (some ⟨b, o + j * ke.size, none⟩)) := by
  subst hA
  subst hi
  have := V.indexAddr (P := P) (n := n) (S := S) (x := x) (y := y) (env := env) hk hd hke hx hy (by omega) (by omega)
  simpa using this
theorem V.elemI [Tys P] {t e : TypeId} {x y : Operand} {A : Option Addr} {b o m c : Nat} {i : Int} {k ke : TyK} {ik : IntKind} (hk : tyk P t = some k) (hd : k.desc = .slice e) (hke : tyk P e = some ke) (hx : ev env x = some (.slice A m c)) (hy : ev env y = some (.int ik i)) (hi : 0 ≤ i ∧ i < m) (hA : A = some ⟨b, o, none⟩) :
    V P n S env (.indexAddr t x y) (.pointer (some ⟨b, o + i.toNat * ke.size, none⟩)) := by
  subst hA
  exact V.indexAddr hk hd hke hx hy hi.1 hi.2
end
end Go.Proofs.YtfbhcemlnojejaaDoor
