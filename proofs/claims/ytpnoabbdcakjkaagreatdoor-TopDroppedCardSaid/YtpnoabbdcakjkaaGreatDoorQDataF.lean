/-
  The program's data, as plain values that know where their slices lie.
-/
import Derived.Test.YtpnoabbdcakjkaaGreatDoorQEng
import Derived.Test.YtpnoabbdcakjkaaGreatDoorQSpecF
namespace Go.Proofs.YtpnoabbdcakjkaaGreatDoor
set_option linter.unusedVariables false
set_option linter.unusedSimpArgs false
open Go
open Enc (enc)


abbrev LenOk (l : Bytes) : Prop := l.length ≤ 9223372036854775807
instance : Enc Datum where
  size := 3
  enc d := [strV d.text, intV d.n, intV d.m]
  good _ d := LenOk d.text ∧ I64 d.n ∧ I64 d.m
  len _ := rfl
  mono _ h := h
  one _ := rfl
  pos := by decide
instance : Enc Sig where
  size := 6
  enc g := [strV g.zone, intV g.key, intV g.alg, intV g.frm, intV g.til, .int .u64 g.sum]
  good _ g := LenOk g.zone ∧ I64 g.key ∧ I64 g.alg ∧ I64 g.frm ∧ I64 g.til ∧ (0 ≤ g.sum ∧ g.sum < 18446744073709551616)
  len _ := rfl
  mono _ h := h
  one _ := rfl
  pos := by decide
/-- api.Set. -/
structure RSet where
  name : Bytes
  typ : Int
  life : Int
  data : Slc Datum
instance : Enc RSet where
  size := 4
  enc s := [strV s.name, intV s.typ, intV s.life, .slice s.data.A s.data.len s.data.cap]
  good H s := LenOk s.name ∧ I64 s.typ ∧ I64 s.life ∧ s.data.Good H
  len _ := rfl
  mono hle h := ⟨h.1, h.2.1, h.2.2.1, h.2.2.2.mono hle⟩
  one _ := rfl
  pos := by decide
structure Signed where
  set : RSet
  sigs : Slc Sig
instance : Enc Signed where
  size := 5
  enc s := [strV s.set.name, intV s.set.typ, intV s.set.life, .slice s.set.data.A s.set.data.len s.set.data.cap, .slice s.sigs.A s.sigs.len s.sigs.cap]
  good H s := Enc.good H s.set ∧ s.sigs.Good H
  len _ := rfl
  mono hle h := ⟨Enc.mono hle h.1, h.2.mono hle⟩
  one _ := rfl
  pos := by decide
structure Answer where
  kind : Int
  sets : Slc Signed
  cut : Bytes
instance : Enc Answer where
  size := 3
  enc a := [intV a.kind, .slice a.sets.A a.sets.len a.sets.cap, strV a.cut]
  good H a := I64 a.kind ∧ a.sets.Good H ∧ LenOk a.cut
  len _ := rfl
  mono hle h := ⟨h.1, h.2.1.mono hle, h.2.2⟩
  one _ := rfl
  pos := by decide
instance : Enc Question where
  size := 2
  enc q := [strV q.name, intV q.typ]
  good _ q := LenOk q.name ∧ I64 q.typ
  len _ := rfl
  mono _ h := h
  one _ := rfl
  pos := by decide
structure Msg where
  kind : Int
  id : Int
  frm : Int
  to : Int
  q : Question
  ans : Answer
instance : Enc Msg where
  size := 9
  enc m := [intV m.kind, intV m.id, intV m.frm, intV m.to, strV m.q.name, intV m.q.typ, intV m.ans.kind, .slice m.ans.sets.A m.ans.sets.len m.ans.sets.cap, strV m.ans.cut]
  good H m := I64 m.kind ∧ I64 m.id ∧ I64 m.frm ∧ I64 m.to ∧ Enc.good H m.q ∧ Enc.good H m.ans
  len _ := rfl
  mono hle h := ⟨h.1, h.2.1, h.2.2.1, h.2.2.2.1, Enc.mono hle h.2.2.2.2.1, Enc.mono hle h.2.2.2.2.2⟩
  one _ := rfl
  pos := by decide
structure Transit where
  at_ : Int
  seq : Int
  m : Msg
instance : Enc Transit where
  size := 11
  enc t := [intV t.at_, intV t.seq, intV t.m.kind, intV t.m.id, intV t.m.frm, intV t.m.to, strV t.m.q.name, intV t.m.q.typ, intV t.m.ans.kind, .slice t.m.ans.sets.A t.m.ans.sets.len t.m.ans.sets.cap, strV t.m.ans.cut]
  good H t := I64 t.at_ ∧ I64 t.seq ∧ Enc.good H t.m
  len _ := rfl
  mono hle h := ⟨h.1, h.2.1, Enc.mono hle h.2.2⟩
  one _ := rfl
  pos := by decide
structure Net where
  seq : Int
  list : Slc Transit
instance : Enc Net where
  size := 2
  enc n := [intV n.seq, .slice n.list.A n.list.len n.list.cap]
  good H n := I64 n.seq ∧ n.list.Good H
  len _ := rfl
  mono hle h := ⟨h.1, h.2.mono hle⟩
  one _ := rfl
  pos := by decide
instance : Enc FateC where
  size := 4
  enc f := [.bool f.lost, intV f.delay, intV f.copies, intV f.forge]
  good _ f := I64 f.delay ∧ I64 f.copies ∧ I64 f.forge
  len _ := rfl
  mono _ h := h
  one _ := rfl
  pos := by decide
def RSet.c (s : RSet) : SetC := ⟨s.name, s.typ, s.life, s.data.els⟩
def Signed.c (s : Signed) : SignedC := ⟨s.set.c, s.sigs.els⟩
def Answer.c (a : Answer) : AnswerC := ⟨a.kind, a.sets.els.map Signed.c, a.cut⟩
def Msg.c (m : Msg) : MsgC := ⟨m.kind, m.id, m.frm, m.to, m.q, m.ans.c⟩
def Transit.c (t : Transit) : TransitC := ⟨t.at_, t.seq, t.m.c⟩
def Net.c (n : Net) : NetC := ⟨n.seq, n.list.els.map Transit.c⟩
theorem Slc.Good.msgOf {H : Hp} {s : Slc Transit} (h : s.Good H) {k : Nat} (hk : k < s.len) : H.cells s.b (s.o + k * 11 + 2) (enc (s.els[k]'(by rw [h.len]; exact hk)).m) := h.part (j := 2) (m := 9) hk rfl
theorem Slc.Good.setOf {H : Hp} {s : Slc Signed} (h : s.Good H) {k : Nat} (hk : k < s.len) : H.cells s.b (s.o + k * 5 + 0) (enc (s.els[k]'(by rw [h.len]; exact hk)).set) := h.part (j := 0) (m := 4) hk rfl
def Rule.cells (r : Rule) : List Value := [intV r.text, intV r.leastN, intV r.mostN, intV r.leastM, intV r.mostM, .bool r.even, .bool r.single, .bool r.wild]
/-- The table lies where it was laid. -/
def Rules (H : Hp) : Prop := ∀ i, i < 9 → H.cells 0 (i * 8) (ruleOf i).cells
theorem Rules.mono {H H' : Hp} (hle : H.le H') (h : Rules H) : Rules H' := fun i hi => Hp.cells_le hle (h i hi)
end Go.Proofs.YtpnoabbdcakjkaaGreatDoor
namespace Go.Proofs.YtpnoabbdcakjkaaGreatDoor
set_option linter.unusedVariables false
set_option linter.unusedSimpArgs false
open Go
open Enc (enc)
/-- api.Entry. -/
structure Entry where
  signed : Signed
  zone : Bytes
  til : Int
instance : Enc Entry where
  size := 7
  enc e := [strV e.signed.set.name, intV e.signed.set.typ, intV e.signed.set.life, .slice e.signed.set.data.A e.signed.set.data.len e.signed.set.data.cap, .slice e.signed.sigs.A e.signed.sigs.len e.signed.sigs.cap, strV e.zone, intV e.til]
  good H e := Enc.good H e.signed ∧ LenOk e.zone ∧ I64 e.til
  len _ := rfl
  mono hle h := ⟨Enc.mono hle h.1, h.2⟩
  one _ := rfl
  pos := by decide
end Go.Proofs.YtpnoabbdcakjkaaGreatDoor
namespace Go.Proofs.YtpnoabbdcakjkaaGreatDoor
set_option linter.unusedVariables false
set_option linter.unusedSimpArgs false
open Go
open Enc (enc)
instance : Enc Int where
  size := 1
  enc i := [intV i]
  good _ i := I64 i
  len _ := rfl
  mono _ h := h
  one _ := rfl
  pos := by decide
end Go.Proofs.YtpnoabbdcakjkaaGreatDoor
namespace Go.Proofs.YtpnoabbdcakjkaaGreatDoor
set_option linter.unusedVariables false
set_option linter.unusedSimpArgs false
open Go
open Enc (enc)
/-- api.Forwarder. -/
structure Fwd where
  q : Question
  own : Int
  ups : Slc Int
  at_ : Int
  tried : Int
  til : Int
  id : Int
  done : Bool
  dark : Bool
  ans : Answer
instance : Enc Fwd where
  size := 13
  enc f := [strV f.q.name, intV f.q.typ, intV f.own, .slice f.ups.A f.ups.len f.ups.cap, intV f.at_, intV f.tried, intV f.til, intV f.id, .bool f.done, .bool f.dark, intV f.ans.kind, .slice f.ans.sets.A f.ans.sets.len f.ans.sets.cap, strV f.ans.cut]
  good H f := Enc.good H f.q ∧ I64 f.own ∧ f.ups.Good H ∧ I64 f.at_ ∧ I64 f.tried ∧ I64 f.til ∧ I64 f.id ∧ Enc.good H f.ans
  len _ := rfl
  mono hle h := ⟨Enc.mono hle h.1, h.2.1, h.2.2.1.mono hle, h.2.2.2.1, h.2.2.2.2.1, h.2.2.2.2.2.1, h.2.2.2.2.2.2.1, Enc.mono hle h.2.2.2.2.2.2.2⟩
  one _ := rfl
  pos := by decide
def Fwd.c (f : Fwd) : FwdC := ⟨f.q, f.own, f.ups.els, f.at_, f.tried, f.til, f.id, f.done, f.dark, f.ans.c⟩
end Go.Proofs.YtpnoabbdcakjkaaGreatDoor
