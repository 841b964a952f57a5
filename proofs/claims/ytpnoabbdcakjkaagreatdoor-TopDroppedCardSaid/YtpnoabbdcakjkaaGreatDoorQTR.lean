/- Walks: the small functions of the reference of trust. -/
import Derived.Test.YtpnoabbdcakjkaaGreatDoorQTJ
import Derived.Test.YtpnoabbdcakjkaaGreatDoorQTN
namespace Go.Proofs.YtpnoabbdcakjkaaGreatDoor
set_option linter.unusedVariables false
set_option linter.unusedSimpArgs false
open Go Go.RowKit
set_option maxRecDepth 20000

end Go.Proofs.YtpnoabbdcakjkaaGreatDoor
namespace Go.Proofs.YtpnoabbdcakjkaaGreatDoor
set_option linter.unusedVariables false
set_option linter.unusedSimpArgs false
open Go Go.RowKit
set_option maxRecDepth 20000

theorem sumC_range (s : SetC) (zone : Bytes) (k : KeyC) (a b : Int) : 0 ≤ sumC s zone k a b ∧ sumC s zone k a b < 18446744073709551616 := dig_range (by decide) _
theorem sigNil_good (H : Hp) : Enc.good H sigNil := ⟨by decide, by decide, by decide, by decide, by decide, by decide⟩
theorem sign_good {s : SetC} {zone : Bytes} {k : KeyC} {a b : Int} {r : Sig × Int} (h : r = signC s zone k a b) {H : Hp} (hz : LenOk zone) (hk : Enc.good H k) (ha : I64 a) (hb : I64 b) : Enc.good H r.1 := by
  subst h
  unfold signC
  split
  · exact sigNil_good H
  · exact ⟨hz, hk.1, hk.2, ha, hb, sumC_range _ _ _ _ _⟩
end Go.Proofs.YtpnoabbdcakjkaaGreatDoor
namespace Go.Proofs.YtpnoabbdcakjkaaGreatDoor
set_option linter.unusedVariables false
set_option linter.unusedSimpArgs false
open Go Go.RowKit
open Enc (enc)
set_option maxRecDepth 20000

theorem c_PathV (known : Slc Signed) (a : RSet) (zone : Bytes) (at_ drift : Int) {ks : List KeyC} {q : Question} {e : Int} (h : pathC (known.els.map Signed.c) a.c zone at_ drift = (ks, q, e)) {H : Hp} {w : World} (hs : Sat H w) (hR : Rules H) (hk : known.Good H) (ha : Enc.good H a) (hz : LenOk zone) (hat : I64 at_) (hdr : I64 drift) : Calls Tryz.prog 93 #[known.v, .agg (enc a).toArray, strV zone, intV at_, intV drift] w
    (RetF w H (fun p : Hp × Slc KeyC => p.2.els = ks ∧ p.2.Good p.1 ∧ p.2.len = ks.length) (fun p => .tuple #[p.2.v, .agg (enc q).toArray, intV e]) (fun p => p.1)) := by
  refine (c_Path known a zone at_ drift H w hs hR hk ha hz hat hdr).mono ?_
  rintro en w' ⟨p, ⟨h1, h2, h3⟩, h4, h5⟩
  rw [h] at h1
  injection h1 with e1 e2
  injection e2 with e2 e3
  refine ⟨(p.1, p.2.1), ⟨e1.symm, h2, by rw [e1]; exact h2.len.symm⟩, ?_, h5⟩
  rw [h4, e2, e3]
end Go.Proofs.YtpnoabbdcakjkaaGreatDoor
