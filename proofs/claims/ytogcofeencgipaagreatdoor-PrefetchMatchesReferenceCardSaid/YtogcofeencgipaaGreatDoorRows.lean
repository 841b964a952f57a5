/-
  NARROWER THAN 'FOR EVERY INPUT', by the rows' own cells (each row's printed sentence says how): PacketMatchesReference: laid · PacketBytes: laid · PacketMatches: laid · PacketForged: laid · PrefetchMatchesReference: laid · PrefetchDue: laid · PrefetchCounts: laid · PrefetchLearns: laid · PrefetchDenies: laid · PrefetchOthers: laid.
  DERIVED. THE GIVEN ROWS OF THIS SEAT. 10 by the template 'for every input the law returns true; each argument reads behind the call as it read before'; 0 by the template 'total and deterministic' (their statements: YtogcofeencgipaaGreatDoorTotals.lean).
  GIVEN WITH THE SEED: the statements are not yours to turn. If you find one false, say at which input.
  Laid BY PROGRAM, IN A SANDBOX (cutbox-rows.mjs): the forced cells as the released guide's own fill.sh prints them over the translation 2fe24b4f9dfe41ce… (all of the seat's roots in one cut). By AI agents, Wed Nov 11 2026. No macro, syntax, notation, axiom, sorry.
-/
import Derived.Test.YtogcofeencgipaaGreatDoorChecked
import GoSem.Claim
import GoSem.ClaimJoined
import GoSem.ClaimMapViews
import Derived.JoinedTies
import Derived.KernelRfl
namespace Go.Proofs.YtogcofeencgipaaGreatDoor
/- THE CELL 'sum', in the pinned program and in every row, IS THE sha256 OF THE DUMP (.gsa) THAT YtogcofeencgipaaGreatDoorProg.lean LOADS. Nothing in Lean hashes anything: it is a label: what it is worth is what the hold of that sum in a sandbox is worth. -/
noncomputable def Tryz.pinned : Pinned := { name := "ytogcofeencgipaagreatdoor", sum := "2fe24b4f9dfe41ce3e6cd39f1601bf1a9f7c52b7c7b0c47d9fa551e78c8c45b5", checked := Tryz.checked }
namespace Rows
def none {H : Type} : Left H := { results := [], args := [] }

/- WHAT THE LISTED PACKAGE-LEVEL VARIABLES READ AS WHEN THE CALL BEGINS. Each datum BY PROGRAM (the guide's laid-datum.mjs) off the statement by which the dump's own 'gosem.cut.vars' lays the variable. In a bare row this is a premise. The card (YtogcofeencgipaaGreatDoorCards.lean) ties it to the program's text. -/
def laid_bytes_ErrTooLarge {H : Type} : DataW H := .iface "*errors.errorString" (.ptr (.agg [.lit (.string [98, 121, 116, 101, 115, 46, 66, 117, 102, 102, 101, 114, 58, 32, 116, 111, 111, 32, 108, 97, 114, 103, 101])]))
def laid_nameplan_record_rules {H : Type} : DataW H := .agg [.agg [.lit (.int .i64 0), .lit (.int .i64 0), .lit (.int .i64 0), .lit (.int .i64 0), .lit (.int .i64 0), .lit (.bool false), .lit (.bool false), .lit (.bool false)], .agg [.lit (.int .i64 0), .lit (.int .i64 1), .lit (.int .i64 1000000), .lit (.int .i64 0), .lit (.int .i64 0), .lit (.bool false), .lit (.bool false), .lit (.bool true)], .agg [.lit (.int .i64 1), .lit (.int .i64 0), .lit (.int .i64 0), .lit (.int .i64 0), .lit (.int .i64 0), .lit (.bool false), .lit (.bool false), .lit (.bool false)], .agg [.lit (.int .i64 1), .lit (.int .i64 0), .lit (.int .i64 0), .lit (.int .i64 0), .lit (.int .i64 0), .lit (.bool false), .lit (.bool true), .lit (.bool false)], .agg [.lit (.int .i64 0), .lit (.int .i64 0), .lit (.int .i64 65535), .lit (.int .i64 0), .lit (.int .i64 100000), .lit (.bool false), .lit (.bool true), .lit (.bool false)], .agg [.lit (.int .i64 3), .lit (.int .i64 0), .lit (.int .i64 0), .lit (.int .i64 0), .lit (.int .i64 0), .lit (.bool false), .lit (.bool false), .lit (.bool true)], .agg [.lit (.int .i64 0), .lit (.int .i64 1), .lit (.int .i64 1000000), .lit (.int .i64 1), .lit (.int .i64 3), .lit (.bool false), .lit (.bool false), .lit (.bool false)], .agg [.lit (.int .i64 0), .lit (.int .i64 1), .lit (.int .i64 1000000), .lit (.int .i64 1), .lit (.int .i64 3), .lit (.bool false), .lit (.bool false), .lit (.bool false)], .agg [.lit (.int .i64 2), .lit (.int .i64 2), .lit (.int .i64 510), .lit (.int .i64 0), .lit (.int .i64 0), .lit (.bool true), .lit (.bool false), .lit (.bool true)]]

/-- 'nameplanlaw26.PacketMatchesReference': WHATEVER THE INPUT: true; the input reads as it did. -/
def packetMatchesReferenceSpec : ChangeSpec := { name := "packetMatchesReference", fn := fun _ => fun
  | [d1, d2, d3] => { results := [.lit (.bool true)], args := [d1, d2, d3] }
  | _ => none }
def packetMatchesReferenceRow : OpenClaim := { program := "ytogcofeencgipaagreatdoor", sum := "2fe24b4f9dfe41ce3e6cd39f1601bf1a9f7c52b7c7b0c47d9fa551e78c8c45b5", func := "nameplan/nameplanlaw26.PacketMatchesReference", spec := "packetMatchesReference", unfollowed := true, recurses := true, named := ["nameplan/record.rules", "bytes.ErrTooLarge"], plainKeys := false, apart := false, laid := [("bytes.ErrTooLarge", laid_bytes_ErrTooLarge), ("nameplan/record.rules", laid_nameplan_record_rules)] }
def PacketMatchesReferenceSaid : Prop := packetMatchesReferenceRow.holds Tryz.pinned (OpenSpec.ofChange packetMatchesReferenceSpec)

/-- ITS FALSE NEIGHBOUR: 'it returns false'. Refute it at one input. -/
def packetMatchesReferenceWrong : ChangeSpec := { name := "packetMatchesReference", fn := fun _ => fun
  | [d1, d2, d3] => { results := [.lit (.bool false)], args := [d1, d2, d3] }
  | _ => none }
def PacketMatchesReferenceWrongFalsely : Prop := packetMatchesReferenceRow.holds Tryz.pinned (OpenSpec.ofChange packetMatchesReferenceWrong)

/-- 'nameplanlaw26.PacketBytes': WHATEVER THE INPUT: true; the input reads as it did. -/
def packetBytesSpec : ChangeSpec := { name := "packetBytes", fn := fun _ => fun
  | [d1, d2] => { results := [.lit (.bool true)], args := [d1, d2] }
  | _ => none }
def packetBytesRow : OpenClaim := { program := "ytogcofeencgipaagreatdoor", sum := "2fe24b4f9dfe41ce3e6cd39f1601bf1a9f7c52b7c7b0c47d9fa551e78c8c45b5", func := "nameplan/nameplanlaw26.PacketBytes", spec := "packetBytes", unfollowed := true, recurses := true, named := ["nameplan/record.rules", "bytes.ErrTooLarge"], plainKeys := false, apart := false, laid := [("bytes.ErrTooLarge", laid_bytes_ErrTooLarge), ("nameplan/record.rules", laid_nameplan_record_rules)] }
def PacketBytesSaid : Prop := packetBytesRow.holds Tryz.pinned (OpenSpec.ofChange packetBytesSpec)

/-- ITS FALSE NEIGHBOUR: 'it returns false'. Refute it at one input. -/
def packetBytesWrong : ChangeSpec := { name := "packetBytes", fn := fun _ => fun
  | [d1, d2] => { results := [.lit (.bool false)], args := [d1, d2] }
  | _ => none }
def PacketBytesWrongFalsely : Prop := packetBytesRow.holds Tryz.pinned (OpenSpec.ofChange packetBytesWrong)

/-- 'nameplanlaw26.PacketMatches': WHATEVER THE INPUT: true; the input reads as it did. -/
def packetMatchesSpec : ChangeSpec := { name := "packetMatches", fn := fun _ => fun
  | [d1, d2, d3] => { results := [.lit (.bool true)], args := [d1, d2, d3] }
  | _ => none }
def packetMatchesRow : OpenClaim := { program := "ytogcofeencgipaagreatdoor", sum := "2fe24b4f9dfe41ce3e6cd39f1601bf1a9f7c52b7c7b0c47d9fa551e78c8c45b5", func := "nameplan/nameplanlaw26.PacketMatches", spec := "packetMatches", unfollowed := true, recurses := true, named := ["nameplan/record.rules", "bytes.ErrTooLarge"], plainKeys := false, apart := false, laid := [("bytes.ErrTooLarge", laid_bytes_ErrTooLarge), ("nameplan/record.rules", laid_nameplan_record_rules)] }
def PacketMatchesSaid : Prop := packetMatchesRow.holds Tryz.pinned (OpenSpec.ofChange packetMatchesSpec)

/-- ITS FALSE NEIGHBOUR: 'it returns false'. Refute it at one input. -/
def packetMatchesWrong : ChangeSpec := { name := "packetMatches", fn := fun _ => fun
  | [d1, d2, d3] => { results := [.lit (.bool false)], args := [d1, d2, d3] }
  | _ => none }
def PacketMatchesWrongFalsely : Prop := packetMatchesRow.holds Tryz.pinned (OpenSpec.ofChange packetMatchesWrong)

/-- 'nameplanlaw26.PacketForged': WHATEVER THE INPUT: true; the input reads as it did. -/
def packetForgedSpec : ChangeSpec := { name := "packetForged", fn := fun _ => fun
  | [d1, d2, d3, d4] => { results := [.lit (.bool true)], args := [d1, d2, d3, d4] }
  | _ => none }
def packetForgedRow : OpenClaim := { program := "ytogcofeencgipaagreatdoor", sum := "2fe24b4f9dfe41ce3e6cd39f1601bf1a9f7c52b7c7b0c47d9fa551e78c8c45b5", func := "nameplan/nameplanlaw26.PacketForged", spec := "packetForged", unfollowed := true, recurses := true, named := ["nameplan/record.rules", "bytes.ErrTooLarge"], plainKeys := false, apart := false, laid := [("bytes.ErrTooLarge", laid_bytes_ErrTooLarge), ("nameplan/record.rules", laid_nameplan_record_rules)] }
def PacketForgedSaid : Prop := packetForgedRow.holds Tryz.pinned (OpenSpec.ofChange packetForgedSpec)

/-- ITS FALSE NEIGHBOUR: 'it returns false'. Refute it at one input. -/
def packetForgedWrong : ChangeSpec := { name := "packetForged", fn := fun _ => fun
  | [d1, d2, d3, d4] => { results := [.lit (.bool false)], args := [d1, d2, d3, d4] }
  | _ => none }
def PacketForgedWrongFalsely : Prop := packetForgedRow.holds Tryz.pinned (OpenSpec.ofChange packetForgedWrong)

/-- 'nameplanlaw32.PrefetchMatchesReference': WHATEVER THE INPUT: true; the input reads as it did. -/
def prefetchMatchesReferenceSpec : ChangeSpec := { name := "prefetchMatchesReference", fn := fun _ => fun
  | [d1, d2, d3, d4, d5, d6, d7, d8] => { results := [.lit (.bool true)], args := [d1, d2, d3, d4, d5, d6, d7, d8] }
  | _ => none }
def prefetchMatchesReferenceRow : OpenClaim := { program := "ytogcofeencgipaagreatdoor", sum := "2fe24b4f9dfe41ce3e6cd39f1601bf1a9f7c52b7c7b0c47d9fa551e78c8c45b5", func := "nameplan/nameplanlaw32.PrefetchMatchesReference", spec := "prefetchMatchesReference", unfollowed := true, recurses := true, named := ["nameplan/record.rules"], plainKeys := false, apart := false, laid := [("nameplan/record.rules", laid_nameplan_record_rules)] }
def PrefetchMatchesReferenceSaid : Prop := prefetchMatchesReferenceRow.holds Tryz.pinned (OpenSpec.ofChange prefetchMatchesReferenceSpec)

/-- ITS FALSE NEIGHBOUR: 'it returns false'. Refute it at one input. -/
def prefetchMatchesReferenceWrong : ChangeSpec := { name := "prefetchMatchesReference", fn := fun _ => fun
  | [d1, d2, d3, d4, d5, d6, d7, d8] => { results := [.lit (.bool false)], args := [d1, d2, d3, d4, d5, d6, d7, d8] }
  | _ => none }
def PrefetchMatchesReferenceWrongFalsely : Prop := prefetchMatchesReferenceRow.holds Tryz.pinned (OpenSpec.ofChange prefetchMatchesReferenceWrong)

/-- 'nameplanlaw32.PrefetchDue': WHATEVER THE INPUT: true; the input reads as it did. -/
def prefetchDueSpec : ChangeSpec := { name := "prefetchDue", fn := fun _ => fun
  | [d1, d2, d3, d4, d5, d6, d7] => { results := [.lit (.bool true)], args := [d1, d2, d3, d4, d5, d6, d7] }
  | _ => none }
def prefetchDueRow : OpenClaim := { program := "ytogcofeencgipaagreatdoor", sum := "2fe24b4f9dfe41ce3e6cd39f1601bf1a9f7c52b7c7b0c47d9fa551e78c8c45b5", func := "nameplan/nameplanlaw32.PrefetchDue", spec := "prefetchDue", unfollowed := true, recurses := true, named := ["nameplan/record.rules"], plainKeys := false, apart := false, laid := [("nameplan/record.rules", laid_nameplan_record_rules)] }
def PrefetchDueSaid : Prop := prefetchDueRow.holds Tryz.pinned (OpenSpec.ofChange prefetchDueSpec)

/-- ITS FALSE NEIGHBOUR: 'it returns false'. Refute it at one input. -/
def prefetchDueWrong : ChangeSpec := { name := "prefetchDue", fn := fun _ => fun
  | [d1, d2, d3, d4, d5, d6, d7] => { results := [.lit (.bool false)], args := [d1, d2, d3, d4, d5, d6, d7] }
  | _ => none }
def PrefetchDueWrongFalsely : Prop := prefetchDueRow.holds Tryz.pinned (OpenSpec.ofChange prefetchDueWrong)

/-- 'nameplanlaw32.PrefetchCounts': WHATEVER THE INPUT: true; the input reads as it did. -/
def prefetchCountsSpec : ChangeSpec := { name := "prefetchCounts", fn := fun _ => fun
  | [d1, d2, d3] => { results := [.lit (.bool true)], args := [d1, d2, d3] }
  | _ => none }
def prefetchCountsRow : OpenClaim := { program := "ytogcofeencgipaagreatdoor", sum := "2fe24b4f9dfe41ce3e6cd39f1601bf1a9f7c52b7c7b0c47d9fa551e78c8c45b5", func := "nameplan/nameplanlaw32.PrefetchCounts", spec := "prefetchCounts", unfollowed := true, recurses := true, named := ["nameplan/record.rules"], plainKeys := false, apart := false, laid := [("nameplan/record.rules", laid_nameplan_record_rules)] }
def PrefetchCountsSaid : Prop := prefetchCountsRow.holds Tryz.pinned (OpenSpec.ofChange prefetchCountsSpec)

/-- ITS FALSE NEIGHBOUR: 'it returns false'. Refute it at one input. -/
def prefetchCountsWrong : ChangeSpec := { name := "prefetchCounts", fn := fun _ => fun
  | [d1, d2, d3] => { results := [.lit (.bool false)], args := [d1, d2, d3] }
  | _ => none }
def PrefetchCountsWrongFalsely : Prop := prefetchCountsRow.holds Tryz.pinned (OpenSpec.ofChange prefetchCountsWrong)

/-- 'nameplanlaw32.PrefetchLearns': WHATEVER THE INPUT: true; the input reads as it did. -/
def prefetchLearnsSpec : ChangeSpec := { name := "prefetchLearns", fn := fun _ => fun
  | [d1, d2, d3, d4] => { results := [.lit (.bool true)], args := [d1, d2, d3, d4] }
  | _ => none }
def prefetchLearnsRow : OpenClaim := { program := "ytogcofeencgipaagreatdoor", sum := "2fe24b4f9dfe41ce3e6cd39f1601bf1a9f7c52b7c7b0c47d9fa551e78c8c45b5", func := "nameplan/nameplanlaw32.PrefetchLearns", spec := "prefetchLearns", unfollowed := true, recurses := true, named := ["nameplan/record.rules"], plainKeys := false, apart := false, laid := [("nameplan/record.rules", laid_nameplan_record_rules)] }
def PrefetchLearnsSaid : Prop := prefetchLearnsRow.holds Tryz.pinned (OpenSpec.ofChange prefetchLearnsSpec)

/-- ITS FALSE NEIGHBOUR: 'it returns false'. Refute it at one input. -/
def prefetchLearnsWrong : ChangeSpec := { name := "prefetchLearns", fn := fun _ => fun
  | [d1, d2, d3, d4] => { results := [.lit (.bool false)], args := [d1, d2, d3, d4] }
  | _ => none }
def PrefetchLearnsWrongFalsely : Prop := prefetchLearnsRow.holds Tryz.pinned (OpenSpec.ofChange prefetchLearnsWrong)

/-- 'nameplanlaw32.PrefetchDenies': WHATEVER THE INPUT: true; the input reads as it did. -/
def prefetchDeniesSpec : ChangeSpec := { name := "prefetchDenies", fn := fun _ => fun
  | [d1, d2, d3, d4, d5, d6] => { results := [.lit (.bool true)], args := [d1, d2, d3, d4, d5, d6] }
  | _ => none }
def prefetchDeniesRow : OpenClaim := { program := "ytogcofeencgipaagreatdoor", sum := "2fe24b4f9dfe41ce3e6cd39f1601bf1a9f7c52b7c7b0c47d9fa551e78c8c45b5", func := "nameplan/nameplanlaw32.PrefetchDenies", spec := "prefetchDenies", unfollowed := true, recurses := true, named := ["nameplan/record.rules"], plainKeys := false, apart := false, laid := [("nameplan/record.rules", laid_nameplan_record_rules)] }
def PrefetchDeniesSaid : Prop := prefetchDeniesRow.holds Tryz.pinned (OpenSpec.ofChange prefetchDeniesSpec)

/-- ITS FALSE NEIGHBOUR: 'it returns false'. Refute it at one input. -/
def prefetchDeniesWrong : ChangeSpec := { name := "prefetchDenies", fn := fun _ => fun
  | [d1, d2, d3, d4, d5, d6] => { results := [.lit (.bool false)], args := [d1, d2, d3, d4, d5, d6] }
  | _ => none }
def PrefetchDeniesWrongFalsely : Prop := prefetchDeniesRow.holds Tryz.pinned (OpenSpec.ofChange prefetchDeniesWrong)

/-- 'nameplanlaw32.PrefetchOthers': WHATEVER THE INPUT: true; the input reads as it did. -/
def prefetchOthersSpec : ChangeSpec := { name := "prefetchOthers", fn := fun _ => fun
  | [d1, d2, d3, d4, d5] => { results := [.lit (.bool true)], args := [d1, d2, d3, d4, d5] }
  | _ => none }
def prefetchOthersRow : OpenClaim := { program := "ytogcofeencgipaagreatdoor", sum := "2fe24b4f9dfe41ce3e6cd39f1601bf1a9f7c52b7c7b0c47d9fa551e78c8c45b5", func := "nameplan/nameplanlaw32.PrefetchOthers", spec := "prefetchOthers", unfollowed := true, recurses := true, named := ["nameplan/record.rules"], plainKeys := false, apart := false, laid := [("nameplan/record.rules", laid_nameplan_record_rules)] }
def PrefetchOthersSaid : Prop := prefetchOthersRow.holds Tryz.pinned (OpenSpec.ofChange prefetchOthersSpec)

/-- ITS FALSE NEIGHBOUR: 'it returns false'. Refute it at one input. -/
def prefetchOthersWrong : ChangeSpec := { name := "prefetchOthers", fn := fun _ => fun
  | [d1, d2, d3, d4, d5] => { results := [.lit (.bool false)], args := [d1, d2, d3, d4, d5] }
  | _ => none }
def PrefetchOthersWrongFalsely : Prop := prefetchOthersRow.holds Tryz.pinned (OpenSpec.ofChange prefetchOthersWrong)

/- THE SECOND FORM. 'bulk': how many values and letters a reading holds, each counted each time it is reached (what is shared counts as often as it is met; a slice's spare places count too). A statement '..UptoSaid' is the law's where the arguments, and the package variables that the reading takes, are together of bulk at most 1048576: NARROWER than '..Said'. Prove '..Said' where nothing that the law and all that it calls make is longer than what came in: it says more and counts as full. Else prove '..UptoSaid'. A law counts once. -/
mutual
def uptoBulk {H : Type} : DataW H → Nat
  | .lit (.string bytes) => bytes.length + 1
  | .lit _ => 1
  | .nil => 1
  | .ptr d => uptoBulk d + 1
  | .slice elems spare => uptoBulkAll elems + uptoBulkAll spare + 1
  | .agg parts => uptoBulkAll parts + 1
  | .iface _ d => uptoBulk d + 1
  | .map entries => uptoBulkEntries entries + 1
  | .held _ => 1
def uptoBulkAll {H : Type} : List (DataW H) → Nat
  | [] => 0
  | d :: r => uptoBulk d + uptoBulkAll r
def uptoBulkEntries {H : Type} : List (Lit × DataW H) → Nat
  | [] => 0
  | x :: r => uptoBulkEntry x + uptoBulkEntries r
def uptoBulkEntry {H : Type} : Lit × DataW H → Nat
  | (.string bytes, d) => bytes.length + uptoBulk d + 1
  | (_, d) => uptoBulk d + 1
 end
def uptoSmall : (H : Type) → List (DataW H) → Bool := fun _ ds => decide (uptoBulkAll ds ≤ 1048576)
def OpenSpec.upto (s : _root_.Go.ChangeSpec) : _root_.Go.OpenSpec := { _root_.Go.OpenSpec.ofChange s with cond := some uptoSmall }

/-- 'nameplanlaw26.PacketMatchesReference', WHERE WHAT IT READS IS OF BULK AT MOST 1048576: true; the input reads as it did. -/
def packetMatchesReferenceUptoRow : OpenClaim := { program := "ytogcofeencgipaagreatdoor", sum := "2fe24b4f9dfe41ce3e6cd39f1601bf1a9f7c52b7c7b0c47d9fa551e78c8c45b5", func := "nameplan/nameplanlaw26.PacketMatchesReference", spec := "packetMatchesReference", unfollowed := true, recurses := true, named := ["nameplan/record.rules", "bytes.ErrTooLarge"], plainKeys := false, apart := false, laid := [("bytes.ErrTooLarge", laid_bytes_ErrTooLarge), ("nameplan/record.rules", laid_nameplan_record_rules)], narrowed := true }
def PacketMatchesReferenceUptoSaid : Prop := packetMatchesReferenceUptoRow.holds Tryz.pinned (OpenSpec.upto packetMatchesReferenceSpec)

/-- 'nameplanlaw26.PacketBytes', WHERE WHAT IT READS IS OF BULK AT MOST 1048576: true; the input reads as it did. -/
def packetBytesUptoRow : OpenClaim := { program := "ytogcofeencgipaagreatdoor", sum := "2fe24b4f9dfe41ce3e6cd39f1601bf1a9f7c52b7c7b0c47d9fa551e78c8c45b5", func := "nameplan/nameplanlaw26.PacketBytes", spec := "packetBytes", unfollowed := true, recurses := true, named := ["nameplan/record.rules", "bytes.ErrTooLarge"], plainKeys := false, apart := false, laid := [("bytes.ErrTooLarge", laid_bytes_ErrTooLarge), ("nameplan/record.rules", laid_nameplan_record_rules)], narrowed := true }
def PacketBytesUptoSaid : Prop := packetBytesUptoRow.holds Tryz.pinned (OpenSpec.upto packetBytesSpec)

/-- 'nameplanlaw26.PacketMatches', WHERE WHAT IT READS IS OF BULK AT MOST 1048576: true; the input reads as it did. -/
def packetMatchesUptoRow : OpenClaim := { program := "ytogcofeencgipaagreatdoor", sum := "2fe24b4f9dfe41ce3e6cd39f1601bf1a9f7c52b7c7b0c47d9fa551e78c8c45b5", func := "nameplan/nameplanlaw26.PacketMatches", spec := "packetMatches", unfollowed := true, recurses := true, named := ["nameplan/record.rules", "bytes.ErrTooLarge"], plainKeys := false, apart := false, laid := [("bytes.ErrTooLarge", laid_bytes_ErrTooLarge), ("nameplan/record.rules", laid_nameplan_record_rules)], narrowed := true }
def PacketMatchesUptoSaid : Prop := packetMatchesUptoRow.holds Tryz.pinned (OpenSpec.upto packetMatchesSpec)

/-- 'nameplanlaw26.PacketForged', WHERE WHAT IT READS IS OF BULK AT MOST 1048576: true; the input reads as it did. -/
def packetForgedUptoRow : OpenClaim := { program := "ytogcofeencgipaagreatdoor", sum := "2fe24b4f9dfe41ce3e6cd39f1601bf1a9f7c52b7c7b0c47d9fa551e78c8c45b5", func := "nameplan/nameplanlaw26.PacketForged", spec := "packetForged", unfollowed := true, recurses := true, named := ["nameplan/record.rules", "bytes.ErrTooLarge"], plainKeys := false, apart := false, laid := [("bytes.ErrTooLarge", laid_bytes_ErrTooLarge), ("nameplan/record.rules", laid_nameplan_record_rules)], narrowed := true }
def PacketForgedUptoSaid : Prop := packetForgedUptoRow.holds Tryz.pinned (OpenSpec.upto packetForgedSpec)

/-- 'nameplanlaw32.PrefetchMatchesReference', WHERE WHAT IT READS IS OF BULK AT MOST 1048576: true; the input reads as it did. -/
def prefetchMatchesReferenceUptoRow : OpenClaim := { program := "ytogcofeencgipaagreatdoor", sum := "2fe24b4f9dfe41ce3e6cd39f1601bf1a9f7c52b7c7b0c47d9fa551e78c8c45b5", func := "nameplan/nameplanlaw32.PrefetchMatchesReference", spec := "prefetchMatchesReference", unfollowed := true, recurses := true, named := ["nameplan/record.rules"], plainKeys := false, apart := false, laid := [("nameplan/record.rules", laid_nameplan_record_rules)], narrowed := true }
def PrefetchMatchesReferenceUptoSaid : Prop := prefetchMatchesReferenceUptoRow.holds Tryz.pinned (OpenSpec.upto prefetchMatchesReferenceSpec)

/-- 'nameplanlaw32.PrefetchDue', WHERE WHAT IT READS IS OF BULK AT MOST 1048576: true; the input reads as it did. -/
def prefetchDueUptoRow : OpenClaim := { program := "ytogcofeencgipaagreatdoor", sum := "2fe24b4f9dfe41ce3e6cd39f1601bf1a9f7c52b7c7b0c47d9fa551e78c8c45b5", func := "nameplan/nameplanlaw32.PrefetchDue", spec := "prefetchDue", unfollowed := true, recurses := true, named := ["nameplan/record.rules"], plainKeys := false, apart := false, laid := [("nameplan/record.rules", laid_nameplan_record_rules)], narrowed := true }
def PrefetchDueUptoSaid : Prop := prefetchDueUptoRow.holds Tryz.pinned (OpenSpec.upto prefetchDueSpec)

/-- 'nameplanlaw32.PrefetchCounts', WHERE WHAT IT READS IS OF BULK AT MOST 1048576: true; the input reads as it did. -/
def prefetchCountsUptoRow : OpenClaim := { program := "ytogcofeencgipaagreatdoor", sum := "2fe24b4f9dfe41ce3e6cd39f1601bf1a9f7c52b7c7b0c47d9fa551e78c8c45b5", func := "nameplan/nameplanlaw32.PrefetchCounts", spec := "prefetchCounts", unfollowed := true, recurses := true, named := ["nameplan/record.rules"], plainKeys := false, apart := false, laid := [("nameplan/record.rules", laid_nameplan_record_rules)], narrowed := true }
def PrefetchCountsUptoSaid : Prop := prefetchCountsUptoRow.holds Tryz.pinned (OpenSpec.upto prefetchCountsSpec)

/-- 'nameplanlaw32.PrefetchLearns', WHERE WHAT IT READS IS OF BULK AT MOST 1048576: true; the input reads as it did. -/
def prefetchLearnsUptoRow : OpenClaim := { program := "ytogcofeencgipaagreatdoor", sum := "2fe24b4f9dfe41ce3e6cd39f1601bf1a9f7c52b7c7b0c47d9fa551e78c8c45b5", func := "nameplan/nameplanlaw32.PrefetchLearns", spec := "prefetchLearns", unfollowed := true, recurses := true, named := ["nameplan/record.rules"], plainKeys := false, apart := false, laid := [("nameplan/record.rules", laid_nameplan_record_rules)], narrowed := true }
def PrefetchLearnsUptoSaid : Prop := prefetchLearnsUptoRow.holds Tryz.pinned (OpenSpec.upto prefetchLearnsSpec)

/-- 'nameplanlaw32.PrefetchDenies', WHERE WHAT IT READS IS OF BULK AT MOST 1048576: true; the input reads as it did. -/
def prefetchDeniesUptoRow : OpenClaim := { program := "ytogcofeencgipaagreatdoor", sum := "2fe24b4f9dfe41ce3e6cd39f1601bf1a9f7c52b7c7b0c47d9fa551e78c8c45b5", func := "nameplan/nameplanlaw32.PrefetchDenies", spec := "prefetchDenies", unfollowed := true, recurses := true, named := ["nameplan/record.rules"], plainKeys := false, apart := false, laid := [("nameplan/record.rules", laid_nameplan_record_rules)], narrowed := true }
def PrefetchDeniesUptoSaid : Prop := prefetchDeniesUptoRow.holds Tryz.pinned (OpenSpec.upto prefetchDeniesSpec)

/-- 'nameplanlaw32.PrefetchOthers', WHERE WHAT IT READS IS OF BULK AT MOST 1048576: true; the input reads as it did. -/
def prefetchOthersUptoRow : OpenClaim := { program := "ytogcofeencgipaagreatdoor", sum := "2fe24b4f9dfe41ce3e6cd39f1601bf1a9f7c52b7c7b0c47d9fa551e78c8c45b5", func := "nameplan/nameplanlaw32.PrefetchOthers", spec := "prefetchOthers", unfollowed := true, recurses := true, named := ["nameplan/record.rules"], plainKeys := false, apart := false, laid := [("nameplan/record.rules", laid_nameplan_record_rules)], narrowed := true }
def PrefetchOthersUptoSaid : Prop := prefetchOthersUptoRow.holds Tryz.pinned (OpenSpec.upto prefetchOthersSpec)

end Rows
end Go.Proofs.YtogcofeencgipaaGreatDoor
