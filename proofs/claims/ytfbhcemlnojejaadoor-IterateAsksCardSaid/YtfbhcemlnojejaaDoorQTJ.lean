/- Walks: what matches. -/
import Derived.Test.YtfbhcemlnojejaaDoorQTH
namespace Go.Proofs.YtfbhcemlnojejaaDoor
set_option linter.unusedVariables false
set_option linter.unusedSimpArgs false
open Go Go.RowKit
open Enc (enc)
set_option maxRecDepth 20000

theorem filter_up {α : Type} {p : α → Bool} {l : List α} {k : Nat} (hk : k < l.length) : (l.take (k + 1)).filter p = (l.take k).filter p ++ (if p l[k] then [l[k]] else []) := by
  rw [List.take_add_one, List.getElem?_eq_getElem hk, List.filter_append]
  simp only [Option.toList]
  cases h : p l[k] <;> simp [h]
end Go.Proofs.YtfbhcemlnojejaaDoor
namespace Go.Proofs.YtfbhcemlnojejaaDoor
set_option linter.unusedVariables false
set_option linter.unusedSimpArgs false
open Go Go.RowKit
open Enc (enc)
set_option maxRecDepth 20000

structure Finder where
  known : Slc Signed
  anchor : RSet
  at_ : Int
  drift : Int
instance : Enc Finder where
  size := 7
  enc f := [.slice f.known.A f.known.len f.known.cap, strV f.anchor.name, intV f.anchor.typ, intV f.anchor.life, .slice f.anchor.data.A f.anchor.data.len f.anchor.data.cap, intV f.at_, intV f.drift]
  good H f := f.known.Good H ∧ Enc.good H f.anchor ∧ I64 f.at_ ∧ I64 f.drift
  len _ := rfl
  mono hle h := ⟨h.1.mono hle, Enc.mono hle h.2.1, h.2.2⟩
  one _ := rfl
  pos := by decide
def findS (l : List Signed) (n : Bytes) (t : Int) : Option Signed := l.find? fun s => isSet n t s.c
theorem findS_c (l : List Signed) (n : Bytes) (t : Int) : findC (l.map Signed.c) n t = (findS l n t).map Signed.c := by
  unfold findC findS
  rw [List.find?_map]
  rfl
end Go.Proofs.YtfbhcemlnojejaaDoor
