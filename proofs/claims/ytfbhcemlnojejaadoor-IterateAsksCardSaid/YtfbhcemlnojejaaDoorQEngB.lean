/- An engine for walks: rows of bytes. -/
import Derived.Test.YtfbhcemlnojejaaDoorQEngC
import Derived.Test.YtfbhcemlnojejaaDoorQSpecT
import Derived.Lib.AppendStr
import Derived.Lib.ConvBytes
namespace Go.Proofs.YtfbhcemlnojejaaDoor
set_option linter.unusedVariables false
set_option linter.unusedSimpArgs false
open Go Go.RowKit
open Enc (enc)
set_option linter.unusedSectionVars false
instance : Enc UInt8 where
  size := 1
  enc c := [.int .u8 c.toNat]
  good _ _ := True
  len _ := rfl
  mono _ h := h
  one _ := rfl
  pos := by decide
end Go.Proofs.YtfbhcemlnojejaaDoor
namespace Go.Proofs.YtfbhcemlnojejaaDoor
set_option linter.unusedVariables false
set_option linter.unusedSimpArgs false
open Go Go.RowKit
open Enc (enc)
section
variable {P : Program} {n : FK} {w0 : World} {H0 H : Hp} {Q : Exit → Act → World → Prop} {env : List (Nat × Value)} {L : List Loc} {ops rest : List Oper} {α : Type} [Enc α]
theorem TL.frzRowE (i : Nat) {v : Value} {e : TypeId} {size m : Nat} (els : List α) {xs : List Value} (hi : L[i]? = some (.row v e size m xs)) (hsz : size = Enc.size α) (hx : xs = encs els) (hm : els.length = m) (hg : ∀ x ∈ els, Enc.good H x) (h : ∀ (H' : Hp) (s : Slc α), s.v = v → s.els = els → s.Good H' → H.le H' → TL P n w0 H0 ops Q rest env H' (L.eraseIdx i)) : TL P n w0 H0 ops Q rest env H L := by
  subst hx
  exact TL.frzRow i hi hsz hm hg h
theorem T.frzRowE {c : Code} (i : Nat) {v : Value} {e : TypeId} {size m : Nat} (els : List α) {xs : List Value} (hi : L[i]? = some (.row v e size m xs)) (hsz : size = Enc.size α) (hx : xs = encs els) (hm : els.length = m) (hg : ∀ x ∈ els, Enc.good H x) (h : ∀ (H' : Hp) (s : Slc α), s.v = v → s.els = els → s.Good H' → H.le H' → T P n w0 H0 c Q env H' (L.eraseIdx i)) : T P n w0 H0 c Q env H L := by
  subst hx
  exact T.frzRow i hi hsz hm hg h
end
section
variable {P : Program} {n : FK} {w0 : World} {H0 H : Hp} {Q : Exit → Act → World → Prop} {env : List (Nat × Value)} {L : List Loc} {ops rest : List Oper}
theorem TL.blkRow (i m size : Nat) {b : Nat} {e : TypeId} {cs : List Value} (hi : L[i]? = some (.blk b e cs)) (hl : cs.length = m * size) (hm : m ≤ maxLen) (h : TL P n w0 H0 ops Q rest env H (L.set i (.row (.slice (some ⟨b, 0, none⟩) m m) e size m cs))) : TL P n w0 H0 ops Q rest env H L :=
  ⟨fun a w hf hs => h.out a w hf (hs.blkRow hi hl hm)⟩
end
end Go.Proofs.YtfbhcemlnojejaaDoor
namespace Go.Proofs.YtfbhcemlnojejaaDoor
set_option linter.unusedVariables false
set_option linter.unusedSimpArgs false
open Go Go.RowKit
open Enc (enc)
end Go.Proofs.YtfbhcemlnojejaaDoor
