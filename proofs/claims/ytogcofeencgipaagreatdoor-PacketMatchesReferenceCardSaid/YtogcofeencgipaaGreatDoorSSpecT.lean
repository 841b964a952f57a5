/- Plain laws: signing and trust. -/
import Derived.Test.YtogcofeencgipaaGreatDoorSSpec
namespace Go.Proofs.YtogcofeencgipaaGreatDoor
set_option linter.unusedVariables false
set_option linter.unusedSimpArgs false
open Go
structure KeyC where
  n : Int
  alg : Int
  deriving DecidableEq
def byteOf (n : Nat) : UInt8 := UInt8.ofNat n
/-- A number as 8 bytes, the most significant one first. -/
def num8 (n : Int) : Bytes := (List.range 8).map fun i => byteOf ((n % 18446744073709551616).toNat / 2 ^ (56 - 8 * i))
def textB (s : Bytes) : Bytes := byteOf s.length :: s
def datumB (d : Datum) : Bytes := textB d.text ++ num8 d.n ++ num8 d.m
def setB (s : SetC) : Bytes := textB s.name ++ num8 s.typ ++ num8 s.life ++ [byteOf s.data.length] ++ s.data.flatMap datumB
def digStep (d : Int) (c : UInt8) : Int := ((Nat.xor d.toNat c.toNat : Nat) : Int) * 1099511628211 % 18446744073709551616
def digest (d : Int) (l : Bytes) : Int := l.foldl digStep d
def firstDigest : Int := 14695981039346656037
theorem digest_app (d : Int) (a b : Bytes) : digest d (a ++ b) = digest (digest d a) b := List.foldl_append
end Go.Proofs.YtogcofeencgipaaGreatDoor
