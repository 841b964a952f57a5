/- Walks: the reference of trust. -/
import Derived.Test.YtfbhcemlnojejaaDoorREngB
import Derived.Test.YtfbhcemlnojejaaDoorRTLaw
namespace Go.Proofs.YtfbhcemlnojejaaDoor
set_option linter.unusedVariables false
set_option linter.unusedSimpArgs false
open Go Go.RowKit
open Enc (enc)
set_option maxRecDepth 20000

end Go.Proofs.YtfbhcemlnojejaaDoor
namespace Go.Proofs.YtfbhcemlnojejaaDoor
set_option linter.unusedVariables false
set_option linter.unusedSimpArgs false
open Go Go.RowKit
open Enc (enc)
set_option maxRecDepth 20000

theorem c_Known10V {r : Int} {s : Slc Signed} {n : Bytes} {t : Int} (hr : knownI (s.els.map Signed.c) n t = r) {H : Hp} {w : World} (hs : Sat H w) (hg : s.Good H) : Calls Tryd.prog 28 #[s.v, strV n, intV t] w (Ret w (intV r)) := hr ▸ c_Known10 s n t H w hs hg
end Go.Proofs.YtfbhcemlnojejaaDoor
