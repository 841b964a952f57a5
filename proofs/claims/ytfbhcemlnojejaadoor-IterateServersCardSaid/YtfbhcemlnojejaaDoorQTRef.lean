/- Walks: the reference of trust. -/
import Derived.Test.YtfbhcemlnojejaaDoorQEngB
import Derived.Test.YtfbhcemlnojejaaDoorQTLaw
namespace Go.Proofs.YtfbhcemlnojejaaDoor
set_option linter.unusedVariables false
set_option linter.unusedSimpArgs false
open Go Go.RowKit
open Enc (enc)
set_option maxRecDepth 20000

end Go.Proofs.YtfbhcemlnojejaaDoor
namespace Go.Proofs.YtfbhcemlnojejaaDoor
set_option linter.unusedVariables false
set_option linter.unusedSimpArgs false
open Go Go.RowKit
open Enc (enc)
set_option maxRecDepth 20000

theorem knownI_none {l : List SignedC} {n : Bytes} {k : Int} (h : findC l n k = none) : knownI l n k = -1 := by
  unfold knownI
  rw [List.findIdx?_eq_none_iff.2]
  intro x hx
  have := List.find?_eq_none.1 h x hx
  simpa using this
theorem c_Known10V {r : Int} {s : Slc Signed} {n : Bytes} {t : Int} (hr : knownI (s.els.map Signed.c) n t = r) {H : Hp} {w : World} (hs : Sat H w) (hg : s.Good H) : Calls Tryd.prog 28 #[s.v, strV n, intV t] w (Ret w (intV r)) := hr ▸ c_Known10 s n t H w hs hg
end Go.Proofs.YtfbhcemlnojejaaDoor
