/- The engine: rows of the call's own. -/
import Derived.Test.YtfbhcemlnojejaaDoorEngB
namespace Go.Proofs.YtfbhcemlnojejaaDoor
set_option linter.unusedVariables false
set_option linter.unusedSimpArgs false
open Go Go.RowKit
section
variable {P : Program} {n : FK} {w0 : World} {H0 H : Hp} {Q : Exit → Act → World → Prop} {env : List (Nat × Value)} {L : List Loc} {ops rest : List Oper} {α : Type} [Enc α]
theorem TL.frzRowE (i : Nat) {v : Value} {e : TypeId} {size m : Nat} (els : List α) {xs : List Value} (hi : L[i]? = some (.row v e size m xs)) (hsz : size = Enc.size α) (hx : xs = encs els) (hm : els.length = m) (hg : ∀ x ∈ els, Enc.good H x) (h : ∀ (H' : Hp) (s : Slc α), s.v = v → s.els = els → s.Good H' → H.le H' → TL P n w0 H0 ops Q rest env H' (L.eraseIdx i)) : TL P n w0 H0 ops Q rest env H L := by
  subst hx
  exact TL.frzRow i hi hsz hm hg h
theorem T.frzRowE {c : Code} (i : Nat) {v : Value} {e : TypeId} {size m : Nat} (els : List α) {xs : List Value} (hi : L[i]? = some (.row v e size m xs)) (hsz : size = Enc.size α) (hx : xs = encs els) (hm : els.length = m) (hg : ∀ x ∈ els, Enc.good H x) (h : ∀ (H' : Hp) (s : Slc α), s.v = v → s.els = els → s.Good H' → H.le H' → T P n w0 H0 c Q env H' (L.eraseIdx i)) : T P n w0 H0 c Q env H L := by
  subst hx
  exact T.frzRow i hi hsz hm hg h
end
theorem encs_two {α : Type} [Enc α] (a b : List α) : ([] ++ encs a) ++ encs b = encs (a ++ b) := by
  rw [List.nil_append]
  unfold encs
  rw [List.flatMap_append]
theorem good_two {α : Type} [Enc α] {H : Hp} {a b : List α} (ha : ∀ x ∈ a, Enc.good H x) (hb : ∀ x ∈ b, Enc.good H x) : ∀ x ∈ a ++ b, Enc.good H x := fun x hx => by
  rcases List.mem_append.1 hx with h | h
  · exact ha x h
  · exact hb x h
section
variable {P : Program} {n : FK} {w0 : World} {H0 H : Hp} {Q : Exit → Act → World → Prop} {env : List (Nat × Value)} {L : List Loc} {ops rest : List Oper}
theorem TL.blkRow (i m size : Nat) {b : Nat} {e : TypeId} {cs : List Value} (hi : L[i]? = some (.blk b e cs)) (hl : cs.length = m * size) (hm : m ≤ maxLen) (h : TL P n w0 H0 ops Q rest env H (L.set i (.row (.slice (some ⟨b, 0, none⟩) m m) e size m cs))) : TL P n w0 H0 ops Q rest env H L :=
  ⟨fun a w hf hs => h.out a w hf (hs.blkRow hi hl hm)⟩
end
end Go.Proofs.YtfbhcemlnojejaaDoor
