/- Plain laws: signing and trust. -/
import Derived.Test.YtogcofeencgipaaDoorSpec
namespace Go.Proofs.YtogcofeencgipaaDoor
set_option linter.unusedVariables false
set_option linter.unusedSimpArgs false
open Go
structure KeyC where
  n : Int
  alg : Int
  deriving DecidableEq
/-! ### bytes -/
def byteOf (n : Nat) : UInt8 := UInt8.ofNat n
/-- A number as 8 bytes, the most significant one first. -/
def num8 (n : Int) : Bytes := (List.range 8).map fun i => byteOf ((n % 18446744073709551616).toNat / 2 ^ (56 - 8 * i))
def textB (s : Bytes) : Bytes := byteOf s.length :: s
def datumB (d : Datum) : Bytes := textB d.text ++ num8 d.n ++ num8 d.m
def setB (s : SetC) : Bytes := textB s.name ++ num8 s.typ ++ num8 s.life ++ [byteOf s.data.length] ++ s.data.flatMap datumB
def digStep (d : Int) (c : UInt8) : Int := ((Nat.xor d.toNat c.toNat : Nat) : Int) * 1099511628211 % 18446744073709551616
def digest (d : Int) (l : Bytes) : Int := l.foldl digStep d
def firstDigest : Int := 14695981039346656037
theorem digest_app (d : Int) (a b : Bytes) : digest d (a ++ b) = digest (digest d a) b := List.foldl_append
def sumC (s : SetC) (zone : Bytes) (k : KeyC) (frm til : Int) : Int := digest firstDigest (setB s ++ textB zone ++ num8 k.n ++ num8 k.alg ++ num8 frm ++ num8 til)
def sKeyOK (k : KeyC) : Bool := decide (1 ≤ k.n ∧ k.n ≤ 1000000) && decide (1 ≤ k.alg ∧ k.alg ≤ 3)
def windowOK (frm til : Int) : Bool := decide (0 ≤ frm ∧ frm ≤ til ∧ til ≤ 20000000)
def sigNil : Sig := ⟨[], 0, 0, 0, 0, 0⟩
def signC (s : SetC) (zone : Bytes) (k : KeyC) (frm til : Int) : Sig × Int :=
  if !(setOK s && sKeyOK k && windowOK frm til && nameOK zone && !wild zone && inN s.name zone) then (sigNil, 1) else (⟨zone, k.n, k.alg, frm, til, sumC s zone k frm til⟩, 0)
def checkC (s : SetC) (g : Sig) (k : KeyC) : Bool := decide ((signC s g.zone k g.frm g.til).2 = 0) && decide ((signC s g.zone k g.frm g.til).1 = g)
/-! ### trust -/
def whenOK (at_ drift : Int) : Bool := decide (0 ≤ at_ ∧ at_ ≤ 10000000) && decide (0 ≤ drift ∧ drift ≤ 1000)
def keysOf (s : SetC) : List KeyC := s.data.map fun d => ⟨d.n, d.m⟩
def inTime (g : Sig) (zone : Bytes) (at_ drift : Int) : Bool := decide (g.zone = zone) && decide (g.frm ≤ at_ - drift) && decide (at_ + drift ≤ g.til)
def signedBy (s : SignedC) (zone : Bytes) (keys : List KeyC) (at_ drift : Int) : Bool :=
  whenOK at_ drift && s.sigs.any fun g => inTime g zone at_ drift && keys.any fun k => checkC s.set g k
def both (anchor keys : SetC) : List KeyC := (keysOf keys).filter fun k => (keysOf anchor).contains k
def matches_ (anchor : SetC) (keys : SignedC) (at_ drift : Int) : Bool :=
  setOK anchor && decide (anchor.typ = 6) && setOK keys.set && decide (keys.set.typ = 7) && decide (keys.set.name = anchor.name) && signedBy keys anchor.name (both anchor keys.set) at_ drift
def keysC (s : SetC) : List KeyC × Int := if !setOK s then ([], 1) else if s.typ ≠ 7 then ([], 12) else (keysOf s, 0)
def qNil : Question := ⟨[], 0⟩
def isSet (n : Bytes) (t : Int) (s : SignedC) : Bool := decide (s.set.name = n) && decide (s.set.typ = t)
def findC (known : List SignedC) (n : Bytes) (t : Int) : Option SignedC := known.find? (isSet n t)
/-- The way from a zone to the root: the zones, or why there is none. -/
def wayC (known : List SignedC) : Nat → Bytes → List Bytes → List Bytes × Question × Int
  | 0, _, way => (way, qNil, 0)
  | f + 1, n, way =>
    if n = [46] then (way, qNil, 0) else
    match findC known n 6 with
    | none => ([], ⟨n, 6⟩, 4)
    | some a =>
      match a.sigs with
      | [] => ([], qNil, 31)
      | g :: _ => if !(nameOK n && nameOK g.zone && inN n g.zone) || decide (n = g.zone) then ([], qNil, 31) else wayC known f g.zone (way ++ [g.zone])
/-- The keys at the head of a way that ends at the root; the way is read from its end. -/
def followC (known : List SignedC) (anchor : SetC) (at_ drift : Int) : List Bytes → List KeyC × Question × Int
  | [] => ([], qNil, 0)
  | z :: up =>
    match followC known anchor at_ drift up with
    | (keys, q, 0) =>
      let a : Option SetC := if z = [46] then some anchor else
        match findC known z 6, up with
        | some x, o :: _ => if signedBy x o keys at_ drift then some x.set else none
        | _, _ => none
      match a with
      | none => ([], qNil, 31)
      | some an =>
        match findC known z 7 with
        | none => ([], ⟨z, 7⟩, 4)
        | some k => if matches_ an k at_ drift then (keysOf k.set, qNil, 0) else ([], qNil, 31)
    | r => r
end Go.Proofs.YtogcofeencgipaaDoor
