import Derived.Test.YthabgdbhgcgemaaGreatDoorQEng
import Derived.Test.YthabgdbhgcgemaaGreatDoorQSpec
namespace Go.Proofs.YthabgdbhgcgemaaGreatDoor
set_option linter.unusedVariables false
set_option linter.unusedSimpArgs false
open Go
open Enc (enc)
abbrev LenOk (l : Bytes) : Prop := l.length ≤ 9223372036854775807
instance : Enc Datum where
  size := 3
  enc d := [strV d.text, intV d.n, intV d.m]
  good _ d := LenOk d.text ∧ I64 d.n ∧ I64 d.m
  len _ := rfl
  mono _ h := h
  one _ := rfl
  pos := by decide
instance : Enc Sig where
  size := 6
  enc g := [strV g.zone, intV g.key, intV g.alg, intV g.frm, intV g.til, .int .u64 g.sum]
  good _ g := LenOk g.zone ∧ I64 g.key ∧ I64 g.alg ∧ I64 g.frm ∧ I64 g.til ∧ (0 ≤ g.sum ∧ g.sum < 18446744073709551616)
  len _ := rfl
  mono _ h := h
  one _ := rfl
  pos := by decide
structure RSet where
  name : Bytes
  typ : Int
  life : Int
  data : Slc Datum
instance : Enc RSet where
  size := 4
  enc s := [strV s.name, intV s.typ, intV s.life, .slice s.data.A s.data.len s.data.cap]
  good H s := LenOk s.name ∧ I64 s.typ ∧ I64 s.life ∧ s.data.Good H
  len _ := rfl
  mono hle h := ⟨h.1, h.2.1, h.2.2.1, h.2.2.2.mono hle⟩
  one _ := rfl
  pos := by decide
structure Signed where
  set : RSet
  sigs : Slc Sig
instance : Enc Signed where
  size := 5
  enc s := [strV s.set.name, intV s.set.typ, intV s.set.life, .slice s.set.data.A s.set.data.len s.set.data.cap, .slice s.sigs.A s.sigs.len s.sigs.cap]
  good H s := Enc.good H s.set ∧ s.sigs.Good H
  len _ := rfl
  mono hle h := ⟨Enc.mono hle h.1, h.2.mono hle⟩
  one _ := rfl
  pos := by decide
structure Answer where
  kind : Int
  sets : Slc Signed
  cut : Bytes
instance : Enc Answer where
  size := 3
  enc a := [intV a.kind, .slice a.sets.A a.sets.len a.sets.cap, strV a.cut]
  good H a := I64 a.kind ∧ a.sets.Good H ∧ LenOk a.cut
  len _ := rfl
  mono hle h := ⟨h.1, h.2.1.mono hle, h.2.2⟩
  one _ := rfl
  pos := by decide
instance : Enc Question where
  size := 2
  enc q := [strV q.name, intV q.typ]
  good _ q := LenOk q.name ∧ I64 q.typ
  len _ := rfl
  mono _ h := h
  one _ := rfl
  pos := by decide
structure Msg where
  kind : Int
  id : Int
  frm : Int
  to : Int
  q : Question
  ans : Answer
instance : Enc Msg where
  size := 9
  enc m := [intV m.kind, intV m.id, intV m.frm, intV m.to, strV m.q.name, intV m.q.typ, intV m.ans.kind, .slice m.ans.sets.A m.ans.sets.len m.ans.sets.cap, strV m.ans.cut]
  good H m := I64 m.kind ∧ I64 m.id ∧ I64 m.frm ∧ I64 m.to ∧ Enc.good H m.q ∧ Enc.good H m.ans
  len _ := rfl
  mono hle h := ⟨h.1, h.2.1, h.2.2.1, h.2.2.2.1, Enc.mono hle h.2.2.2.2.1, Enc.mono hle h.2.2.2.2.2⟩
  one _ := rfl
  pos := by decide
structure Transit where
  at_ : Int
  seq : Int
  m : Msg
instance : Enc Transit where
  size := 11
  enc t := [intV t.at_, intV t.seq, intV t.m.kind, intV t.m.id, intV t.m.frm, intV t.m.to, strV t.m.q.name, intV t.m.q.typ, intV t.m.ans.kind, .slice t.m.ans.sets.A t.m.ans.sets.len t.m.ans.sets.cap, strV t.m.ans.cut]
  good H t := I64 t.at_ ∧ I64 t.seq ∧ Enc.good H t.m
  len _ := rfl
  mono hle h := ⟨h.1, h.2.1, Enc.mono hle h.2.2⟩
  one _ := rfl
  pos := by decide
structure Net where
  seq : Int
  list : Slc Transit
instance : Enc Net where
  size := 2
  enc n := [intV n.seq, .slice n.list.A n.list.len n.list.cap]
  good H n := I64 n.seq ∧ n.list.Good H
  len _ := rfl
  mono hle h := ⟨h.1, h.2.mono hle⟩
  one _ := rfl
  pos := by decide
instance : Enc FateC where
  size := 4
  enc f := [.bool f.lost, intV f.delay, intV f.copies, intV f.forge]
  good _ f := I64 f.delay ∧ I64 f.copies ∧ I64 f.forge
  len _ := rfl
  mono _ h := h
  one _ := rfl
  pos := by decide
def RSet.c (s : RSet) : SetC := ⟨s.name, s.typ, s.life, s.data.els⟩
def Signed.c (s : Signed) : SignedC := ⟨s.set.c, s.sigs.els⟩
theorem Slc.Good.msgOf {H : Hp} {s : Slc Transit} (h : s.Good H) {k : Nat} (hk : k < s.len) : H.cells s.b (s.o + k * 11 + 2) (enc (s.els[k]'(by rw [h.len]; exact hk)).m) := h.part (j := 2) (m := 9) hk rfl
theorem Slc.Good.setOf {H : Hp} {s : Slc Signed} (h : s.Good H) {k : Nat} (hk : k < s.len) : H.cells s.b (s.o + k * 5 + 0) (enc (s.els[k]'(by rw [h.len]; exact hk)).set) := h.part (j := 0) (m := 4) hk rfl
def Rule.cells (r : Rule) : List Value := [intV r.text, intV r.leastN, intV r.mostN, intV r.leastM, intV r.mostM, .bool r.even, .bool r.single, .bool r.wild]
def Rules (H : Hp) : Prop := ∀ i, i < 9 → H.cells 0 (i * 8) (ruleOf i).cells
theorem Rules.mono {H H' : Hp} (hle : H.le H') (h : Rules H) : Rules H' := fun i hi => Hp.cells_le hle (h i hi)
end Go.Proofs.YthabgdbhgcgemaaGreatDoor
