/- An engine for walks: rows of bytes. -/
import Derived.Test.YtogcofeencgipaaGreatDoorZEngC
import Derived.Test.YtogcofeencgipaaGreatDoorZSpecT
import Derived.Lib.AppendStr
import Derived.Lib.ConvBytes
import Derived.Test.YtogcofeencgipaaGreatDoorZWB
import Derived.Test.YtogcofeencgipaaGreatDoorZNA
namespace Go.Proofs.YtogcofeencgipaaGreatDoor
set_option linter.unusedVariables false
set_option linter.unusedSimpArgs false
open Go Go.RowKit
open Enc (enc)
set_option linter.unusedSectionVars false
instance : Enc UInt8 where
  size := 1
  enc c := [.int .u8 c.toNat]
  good _ _ := True
  len _ := rfl
  mono _ h := h
  one _ := rfl
  pos := by decide
end Go.Proofs.YtogcofeencgipaaGreatDoor
namespace Go.Proofs.YtogcofeencgipaaGreatDoor
set_option linter.unusedVariables false
set_option linter.unusedSimpArgs false
open Go Go.RowKit
open Enc (enc)
section
variable {P : Program} {n : FK} {w0 : World} {H0 H : Hp} {Q : Exit → Act → World → Prop} {env : List (Nat × Value)} {L : List Loc} {ops rest : List Oper}
theorem TL.blkRow (i m size : Nat) {b : Nat} {e : TypeId} {cs : List Value} (hi : L[i]? = some (.blk b e cs)) (hl : cs.length = m * size) (hm : m ≤ maxLen) (h : TL P n w0 H0 ops Q rest env H (L.set i (.row (.slice (some ⟨b, 0, none⟩) m m) e size m cs))) : TL P n w0 H0 ops Q rest env H L :=
  ⟨fun a w hf hs => h.out a w hf (hs.blkRow hi hl hm)⟩
end
end Go.Proofs.YtogcofeencgipaaGreatDoor
namespace Go.Proofs.YtogcofeencgipaaGreatDoor
set_option linter.unusedVariables false
set_option linter.unusedSimpArgs false
open Go Go.RowKit
open Enc (enc)
end Go.Proofs.YtogcofeencgipaaGreatDoor
namespace Go.Proofs.YtogcofeencgipaaGreatDoor
set_option linter.unusedVariables false
set_option linter.unusedSimpArgs false
open Go Go.RowKit
open Enc (enc)
set_option maxRecDepth 20000

end Go.Proofs.YtogcofeencgipaaGreatDoor
namespace Go.Proofs.YtogcofeencgipaaGreatDoor
set_option linter.unusedVariables false
set_option linter.unusedSimpArgs false
open Go Go.RowKit
open Enc (enc)
set_option maxRecDepth 20000

instance instEncIntT : Enc Int where
  size := 1
  enc i := [intV i]
  good _ i := I64 i
  len _ := rfl
  mono _ h := h
  one _ := rfl
  pos := by decide
instance : Enc KeyC where
  size := 2
  enc k := [intV k.n, intV k.alg]
  good _ k := I64 k.n ∧ I64 k.alg
  len _ := rfl
  mono _ h := h
  one _ := rfl
  pos := by decide
end Go.Proofs.YtogcofeencgipaaGreatDoor
namespace Go.Proofs.YtogcofeencgipaaGreatDoor
set_option linter.unusedVariables false
set_option linter.unusedSimpArgs false
open Go Go.RowKit
open Enc (enc)
set_option maxRecDepth 20000

theorem nameOK_le {l : Bytes} (h : nameOK l = true) : l.length ≤ 60 := by
  rcases (nameOK_iff l).1 h with rfl | ⟨h, _⟩
  · decide
  · exact h
theorem datumBy_le {r : Rule} {d : Datum} (h : datumBy r d = true) : d.text.length ≤ 60 := by
  unfold datumBy at h
  simp only [Bool.and_eq_true] at h
  have h3 := h.2
  by_cases h1 : r.text = 1
  · rw [if_pos h1, Bool.and_eq_true] at h3; exact nameOK_le h3.1
  · rw [if_neg h1] at h3
    by_cases h2 : r.text = 2
    · rw [if_pos h2] at h3; exact nameOK_le h3
    · rw [if_neg h2] at h3
      by_cases h4 : r.text = 3
      · rw [if_pos h4] at h3
        have h5 : Word 32 40 d.text := of_decide_eq_true h3
        have := h5.2.1
        omega
      · rw [if_neg h4] at h3
        rw [of_decide_eq_true h3]; decide
structure SetShort (s : SetC) : Prop where
  name : s.name.length ≤ 60
  data : s.data.length ≤ 8
  texts : ∀ d ∈ s.data, d.text.length ≤ 60
theorem setOK_short {s : SetC} (h : setOK s = true) : SetShort s := by
  unfold setOK at h
  simp only [Bool.and_eq_true, List.all_eq_true, decide_eq_true_eq] at h
  obtain ⟨⟨⟨⟨⟨⟨⟨h1, _⟩, _⟩, _, h8⟩, _⟩, _⟩, h2⟩, _⟩ := h
  refine ⟨nameOK_le h1, h8, fun d hd => ?_⟩
  have := h2 d hd
  unfold datumOK at this
  rw [Bool.and_eq_true] at this
  exact datumBy_le this.2
end Go.Proofs.YtogcofeencgipaaGreatDoor
