/- The data of caches. -/
import Derived.Test.YtogcofeencgipaaGreatDoorSData
import Derived.Test.YtogcofeencgipaaGreatDoorSSpecC
namespace Go.Proofs.YtogcofeencgipaaGreatDoor
set_option linter.unusedVariables false
set_option linter.unusedSimpArgs false
open Go
open Enc (enc)
/-- api.Entry. -/
structure Entry where
  signed : Signed
  zone : Bytes
  til : Int
instance : Enc Entry where
  size := 7
  enc e := [strV e.signed.set.name, intV e.signed.set.typ, intV e.signed.set.life, .slice e.signed.set.data.A e.signed.set.data.len e.signed.set.data.cap, .slice e.signed.sigs.A e.signed.sigs.len e.signed.sigs.cap, strV e.zone, intV e.til]
  good H e := Enc.good H e.signed ∧ LenOk e.zone ∧ I64 e.til
  len _ := rfl
  mono hle h := ⟨Enc.mono hle h.1, h.2⟩
  one _ := rfl
  pos := by decide
end Go.Proofs.YtogcofeencgipaaGreatDoor
