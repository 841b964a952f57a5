/- Walks: the sum of a set, signing. -/
import Derived.Test.YtfbhcemlnojejaaDoorQTC
import Derived.Test.YtfbhcemlnojejaaDoorQWH
namespace Go.Proofs.YtfbhcemlnojejaaDoor
set_option linter.unusedVariables false
set_option linter.unusedSimpArgs false
open Go Go.RowKit
open Enc (enc)
set_option maxRecDepth 20000

end Go.Proofs.YtfbhcemlnojejaaDoor
namespace Go.Proofs.YtfbhcemlnojejaaDoor
set_option linter.unusedVariables false
set_option linter.unusedSimpArgs false
open Go Go.RowKit
open Enc (enc)
set_option maxRecDepth 20000

theorem c_UnderV {l p : Bytes} {H : Hp} {w : World} (h1 : nameOK l = true) (h2 : nameOK p = true) (hs : Sat H w) : Calls Tryd.prog 74 #[strV l, strV p] w (Ret w (.tuple #[.bool (inN l p), intV 0])) := by
  have h := c_Under l p H w hs (by have := nameOK_le h1; show _ ≤ _; omega) (by have := nameOK_le h2; show _ ≤ _; omega)
  unfold underC at h
  rw [if_pos ⟨h1, h2⟩, under_in h2] at h
  exact h
end Go.Proofs.YtfbhcemlnojejaaDoor
