/- Walks: the first element for which a function says so. -/
import Derived.Test.YtfbhcemlnojejaaDoorQTD
namespace Go.Proofs.YtfbhcemlnojejaaDoor
set_option linter.unusedVariables false
set_option linter.unusedSimpArgs false
open Go Go.RowKit
open Enc (enc)
set_option maxRecDepth 20000

abbrev setNil : RSet := ⟨[], 0, 0, Slc.nil _⟩
abbrev signedNil : Signed := ⟨setNil, Slc.nil _⟩
section
variable {P : Program} {n : FK} {w0 w : World} {H0 H : Hp} {Q : Exit → Act → World → Prop} {env : List (Nat × Value)} {L : List Loc} {ops rest : List Oper}
/-- A block of the call's own that is not written any more. -/
theorem St.frz {b : Nat} {e : TypeId} {cs : List Value} (hs : St w0 H0 H (.blk b e cs :: L) w) : ∃ H' : Hp, H'.cells b 0 cs ∧ H.le H' ∧ St w0 H0 H' L w :=
  ⟨_, Hp.put_cells, hs.putLe (List.Mem.head _) _, hs.freeze rfl ((hs.ok _ (List.Mem.head _)).2)⟩
end
end Go.Proofs.YtfbhcemlnojejaaDoor
namespace Go.Proofs.YtfbhcemlnojejaaDoor
set_option linter.unusedVariables false
set_option linter.unusedSimpArgs false
open Go Go.RowKit
open Enc (enc)
set_option maxRecDepth 20000

end Go.Proofs.YtfbhcemlnojejaaDoor
