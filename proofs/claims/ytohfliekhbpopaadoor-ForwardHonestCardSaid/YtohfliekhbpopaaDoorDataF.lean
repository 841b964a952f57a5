/- The data of forwarding resolvers. -/
import Derived.Test.YtohfliekhbpopaaDoorData
import Derived.Test.YtohfliekhbpopaaDoorSpecF
namespace Go.Proofs.YtohfliekhbpopaaDoor
set_option linter.unusedVariables false
set_option linter.unusedSimpArgs false
open Go
open Enc (enc)
instance : Enc Int where
  size := 1
  enc i := [intV i]
  good _ i := I64 i
  len _ := rfl
  mono _ h := h
  one _ := rfl
  pos := by decide
/-- api.Forwarder. -/
structure Fwd where
  q : Question
  own : Int
  ups : Slc Int
  at_ : Int
  tried : Int
  til : Int
  id : Int
  done : Bool
  dark : Bool
  ans : Answer
instance : Enc Fwd where
  size := 13
  enc f := [strV f.q.name, intV f.q.typ, intV f.own, .slice f.ups.A f.ups.len f.ups.cap, intV f.at_, intV f.tried, intV f.til, intV f.id, .bool f.done, .bool f.dark, intV f.ans.kind, .slice f.ans.sets.A f.ans.sets.len f.ans.sets.cap, strV f.ans.cut]
  good H f := Enc.good H f.q ∧ I64 f.own ∧ f.ups.Good H ∧ I64 f.at_ ∧ I64 f.tried ∧ I64 f.til ∧ I64 f.id ∧ Enc.good H f.ans
  len _ := rfl
  mono hle h := ⟨Enc.mono hle h.1, h.2.1, h.2.2.1.mono hle, h.2.2.2.1, h.2.2.2.2.1, h.2.2.2.2.2.1, h.2.2.2.2.2.2.1, Enc.mono hle h.2.2.2.2.2.2.2⟩
  one _ := rfl
  pos := by decide
def Fwd.c (f : Fwd) : FwdC := ⟨f.q, f.own, f.ups.els, f.at_, f.tried, f.til, f.id, f.done, f.dark, f.ans.c⟩
theorem fwd_len {f : Fwd} {H : Hp} (h : Enc.good H f) : f.ups.els.length = f.ups.len := h.2.2.1.len
end Go.Proofs.YtohfliekhbpopaaDoor
