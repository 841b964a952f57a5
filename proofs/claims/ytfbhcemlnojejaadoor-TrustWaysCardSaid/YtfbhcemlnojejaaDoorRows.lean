/-
  NARROWER THAN 'FOR EVERY INPUT', by the rows' own cells (each row's printed sentence says how): TrustMatchesReference: laid · TrustSigned: laid · TrustTimes: laid · TrustChains: laid · TrustFurther: laid · TrustWays: laid · IterateMatchesReference: laid · IterateKnown: laid · IterateAsks: laid · IterateServers: laid · IterateZones: laid.
  DERIVED. THE GIVEN ROWS OF THIS SEAT. 11 by the template 'for every input the law returns true; each argument reads behind the call as it read before'; 0 by the template 'total and deterministic' (their statements: YtfbhcemlnojejaaDoorTotals.lean).
  GIVEN WITH THE SEED: the statements are not yours to turn. If you find one false, say at which input.
  Laid BY PROGRAM, IN A SANDBOX (cutbox-rows.mjs): the forced cells as the released guide's own fill.sh prints them over the translation 975d6ed97abd7c09… (all of the seat's roots in one cut). By AI agents, Wed Nov 11 2026. No macro, syntax, notation, axiom, sorry.
-/
import Derived.Test.YtfbhcemlnojejaaDoorChecked
import GoSem.Claim
import GoSem.ClaimJoined
import GoSem.ClaimMapViews
import Derived.JoinedTies
import Derived.KernelRfl
namespace Go.Proofs.YtfbhcemlnojejaaDoor
/- THE CELL 'sum', in the pinned program and in every row, IS THE sha256 OF THE DUMP (.gsa) THAT YtfbhcemlnojejaaDoorProg.lean LOADS. Nothing in Lean hashes anything: it is a label: what it is worth is what the hold of that sum in a sandbox is worth. -/
noncomputable def Tryd.pinned : Pinned := { name := "ytfbhcemlnojejaadoor", sum := "975d6ed97abd7c0945a5ad710b067591403267f89517b52fe684d5d8c505810b", checked := Tryd.checked }
namespace Rows
def none {H : Type} : Left H := { results := [], args := [] }

/- WHAT THE LISTED PACKAGE-LEVEL VARIABLES READ AS WHEN THE CALL BEGINS. Each datum BY PROGRAM (the guide's laid-datum.mjs) off the statement by which the dump's own 'gosem.cut.vars' lays the variable. In a bare row this is a premise. The card (YtfbhcemlnojejaaDoorCards.lean) ties it to the program's text. -/
def laid_nameplan_record_rules {H : Type} : DataW H := .agg [.agg [.lit (.int .i64 0), .lit (.int .i64 0), .lit (.int .i64 0), .lit (.int .i64 0), .lit (.int .i64 0), .lit (.bool false), .lit (.bool false), .lit (.bool false)], .agg [.lit (.int .i64 0), .lit (.int .i64 1), .lit (.int .i64 1000000), .lit (.int .i64 0), .lit (.int .i64 0), .lit (.bool false), .lit (.bool false), .lit (.bool true)], .agg [.lit (.int .i64 1), .lit (.int .i64 0), .lit (.int .i64 0), .lit (.int .i64 0), .lit (.int .i64 0), .lit (.bool false), .lit (.bool false), .lit (.bool false)], .agg [.lit (.int .i64 1), .lit (.int .i64 0), .lit (.int .i64 0), .lit (.int .i64 0), .lit (.int .i64 0), .lit (.bool false), .lit (.bool true), .lit (.bool false)], .agg [.lit (.int .i64 0), .lit (.int .i64 0), .lit (.int .i64 65535), .lit (.int .i64 0), .lit (.int .i64 100000), .lit (.bool false), .lit (.bool true), .lit (.bool false)], .agg [.lit (.int .i64 3), .lit (.int .i64 0), .lit (.int .i64 0), .lit (.int .i64 0), .lit (.int .i64 0), .lit (.bool false), .lit (.bool false), .lit (.bool true)], .agg [.lit (.int .i64 0), .lit (.int .i64 1), .lit (.int .i64 1000000), .lit (.int .i64 1), .lit (.int .i64 3), .lit (.bool false), .lit (.bool false), .lit (.bool false)], .agg [.lit (.int .i64 0), .lit (.int .i64 1), .lit (.int .i64 1000000), .lit (.int .i64 1), .lit (.int .i64 3), .lit (.bool false), .lit (.bool false), .lit (.bool false)], .agg [.lit (.int .i64 2), .lit (.int .i64 2), .lit (.int .i64 510), .lit (.int .i64 0), .lit (.int .i64 0), .lit (.bool true), .lit (.bool false), .lit (.bool true)]]

/-- 'nameplanlaw10.TrustMatchesReference': WHATEVER THE INPUT: true; the input reads as it did. -/
def trustMatchesReferenceSpec : ChangeSpec := { name := "trustMatchesReference", fn := fun _ => fun
  | [d1, d2, d3, d4, d5, d6] => { results := [.lit (.bool true)], args := [d1, d2, d3, d4, d5, d6] }
  | _ => none }
def trustMatchesReferenceRow : OpenClaim := { program := "ytfbhcemlnojejaadoor", sum := "975d6ed97abd7c0945a5ad710b067591403267f89517b52fe684d5d8c505810b", func := "nameplan/nameplanlaw10.TrustMatchesReference", spec := "trustMatchesReference", unfollowed := true, recurses := true, named := ["nameplan/record.rules"], plainKeys := false, apart := false, laid := [("nameplan/record.rules", laid_nameplan_record_rules)] }
def TrustMatchesReferenceSaid : Prop := trustMatchesReferenceRow.holds Tryd.pinned (OpenSpec.ofChange trustMatchesReferenceSpec)

/-- ITS FALSE NEIGHBOUR: 'it returns false'. Refute it at one input. -/
def trustMatchesReferenceWrong : ChangeSpec := { name := "trustMatchesReference", fn := fun _ => fun
  | [d1, d2, d3, d4, d5, d6] => { results := [.lit (.bool false)], args := [d1, d2, d3, d4, d5, d6] }
  | _ => none }
def TrustMatchesReferenceWrongFalsely : Prop := trustMatchesReferenceRow.holds Tryd.pinned (OpenSpec.ofChange trustMatchesReferenceWrong)

/-- 'nameplanlaw10.TrustSigned': WHATEVER THE INPUT: true; the input reads as it did. -/
def trustSignedSpec : ChangeSpec := { name := "trustSigned", fn := fun _ => fun
  | [d1, d2, d3, d4, d5, d6, d7, d8, d9] => { results := [.lit (.bool true)], args := [d1, d2, d3, d4, d5, d6, d7, d8, d9] }
  | _ => none }
def trustSignedRow : OpenClaim := { program := "ytfbhcemlnojejaadoor", sum := "975d6ed97abd7c0945a5ad710b067591403267f89517b52fe684d5d8c505810b", func := "nameplan/nameplanlaw10.TrustSigned", spec := "trustSigned", unfollowed := true, recurses := true, named := ["nameplan/record.rules"], plainKeys := false, apart := false, laid := [("nameplan/record.rules", laid_nameplan_record_rules)] }
def TrustSignedSaid : Prop := trustSignedRow.holds Tryd.pinned (OpenSpec.ofChange trustSignedSpec)

/-- ITS FALSE NEIGHBOUR: 'it returns false'. Refute it at one input. -/
def trustSignedWrong : ChangeSpec := { name := "trustSigned", fn := fun _ => fun
  | [d1, d2, d3, d4, d5, d6, d7, d8, d9] => { results := [.lit (.bool false)], args := [d1, d2, d3, d4, d5, d6, d7, d8, d9] }
  | _ => none }
def TrustSignedWrongFalsely : Prop := trustSignedRow.holds Tryd.pinned (OpenSpec.ofChange trustSignedWrong)

/-- 'nameplanlaw10.TrustTimes': WHATEVER THE INPUT: true; the input reads as it did. -/
def trustTimesSpec : ChangeSpec := { name := "trustTimes", fn := fun _ => fun
  | [d1, d2, d3, d4, d5, d6] => { results := [.lit (.bool true)], args := [d1, d2, d3, d4, d5, d6] }
  | _ => none }
def trustTimesRow : OpenClaim := { program := "ytfbhcemlnojejaadoor", sum := "975d6ed97abd7c0945a5ad710b067591403267f89517b52fe684d5d8c505810b", func := "nameplan/nameplanlaw10.TrustTimes", spec := "trustTimes", unfollowed := true, recurses := true, named := ["nameplan/record.rules"], plainKeys := false, apart := false, laid := [("nameplan/record.rules", laid_nameplan_record_rules)] }
def TrustTimesSaid : Prop := trustTimesRow.holds Tryd.pinned (OpenSpec.ofChange trustTimesSpec)

/-- ITS FALSE NEIGHBOUR: 'it returns false'. Refute it at one input. -/
def trustTimesWrong : ChangeSpec := { name := "trustTimes", fn := fun _ => fun
  | [d1, d2, d3, d4, d5, d6] => { results := [.lit (.bool false)], args := [d1, d2, d3, d4, d5, d6] }
  | _ => none }
def TrustTimesWrongFalsely : Prop := trustTimesRow.holds Tryd.pinned (OpenSpec.ofChange trustTimesWrong)

/-- 'nameplanlaw10.TrustChains': WHATEVER THE INPUT: true; the input reads as it did. -/
def trustChainsSpec : ChangeSpec := { name := "trustChains", fn := fun _ => fun
  | [d1, d2, d3, d4, d5] => { results := [.lit (.bool true)], args := [d1, d2, d3, d4, d5] }
  | _ => none }
def trustChainsRow : OpenClaim := { program := "ytfbhcemlnojejaadoor", sum := "975d6ed97abd7c0945a5ad710b067591403267f89517b52fe684d5d8c505810b", func := "nameplan/nameplanlaw10.TrustChains", spec := "trustChains", unfollowed := true, recurses := true, named := ["nameplan/record.rules"], plainKeys := false, apart := false, laid := [("nameplan/record.rules", laid_nameplan_record_rules)] }
def TrustChainsSaid : Prop := trustChainsRow.holds Tryd.pinned (OpenSpec.ofChange trustChainsSpec)

/-- ITS FALSE NEIGHBOUR: 'it returns false'. Refute it at one input. -/
def trustChainsWrong : ChangeSpec := { name := "trustChains", fn := fun _ => fun
  | [d1, d2, d3, d4, d5] => { results := [.lit (.bool false)], args := [d1, d2, d3, d4, d5] }
  | _ => none }
def TrustChainsWrongFalsely : Prop := trustChainsRow.holds Tryd.pinned (OpenSpec.ofChange trustChainsWrong)

/-- 'nameplanlaw10.TrustFurther': WHATEVER THE INPUT: true; the input reads as it did. -/
def trustFurtherSpec : ChangeSpec := { name := "trustFurther", fn := fun _ => fun
  | [d1, d2, d3, d4, d5, d6] => { results := [.lit (.bool true)], args := [d1, d2, d3, d4, d5, d6] }
  | _ => none }
def trustFurtherRow : OpenClaim := { program := "ytfbhcemlnojejaadoor", sum := "975d6ed97abd7c0945a5ad710b067591403267f89517b52fe684d5d8c505810b", func := "nameplan/nameplanlaw10.TrustFurther", spec := "trustFurther", unfollowed := true, recurses := true, named := ["nameplan/record.rules"], plainKeys := false, apart := false, laid := [("nameplan/record.rules", laid_nameplan_record_rules)] }
def TrustFurtherSaid : Prop := trustFurtherRow.holds Tryd.pinned (OpenSpec.ofChange trustFurtherSpec)

/-- ITS FALSE NEIGHBOUR: 'it returns false'. Refute it at one input. -/
def trustFurtherWrong : ChangeSpec := { name := "trustFurther", fn := fun _ => fun
  | [d1, d2, d3, d4, d5, d6] => { results := [.lit (.bool false)], args := [d1, d2, d3, d4, d5, d6] }
  | _ => none }
def TrustFurtherWrongFalsely : Prop := trustFurtherRow.holds Tryd.pinned (OpenSpec.ofChange trustFurtherWrong)

/-- 'nameplanlaw10.TrustWays': WHATEVER THE INPUT: true; the input reads as it did. -/
def trustWaysSpec : ChangeSpec := { name := "trustWays", fn := fun _ => fun
  | [d1, d2, d3, d4, d5] => { results := [.lit (.bool true)], args := [d1, d2, d3, d4, d5] }
  | _ => none }
def trustWaysRow : OpenClaim := { program := "ytfbhcemlnojejaadoor", sum := "975d6ed97abd7c0945a5ad710b067591403267f89517b52fe684d5d8c505810b", func := "nameplan/nameplanlaw10.TrustWays", spec := "trustWays", unfollowed := true, recurses := true, named := ["nameplan/record.rules"], plainKeys := false, apart := false, laid := [("nameplan/record.rules", laid_nameplan_record_rules)] }
def TrustWaysSaid : Prop := trustWaysRow.holds Tryd.pinned (OpenSpec.ofChange trustWaysSpec)

/-- ITS FALSE NEIGHBOUR: 'it returns false'. Refute it at one input. -/
def trustWaysWrong : ChangeSpec := { name := "trustWays", fn := fun _ => fun
  | [d1, d2, d3, d4, d5] => { results := [.lit (.bool false)], args := [d1, d2, d3, d4, d5] }
  | _ => none }
def TrustWaysWrongFalsely : Prop := trustWaysRow.holds Tryd.pinned (OpenSpec.ofChange trustWaysWrong)

/-- 'nameplanlaw28.IterateMatchesReference': WHATEVER THE INPUT: true; the input reads as it did. -/
def iterateMatchesReferenceSpec : ChangeSpec := { name := "iterateMatchesReference", fn := fun _ => fun
  | [d1, d2, d3, d4] => { results := [.lit (.bool true)], args := [d1, d2, d3, d4] }
  | _ => none }
def iterateMatchesReferenceRow : OpenClaim := { program := "ytfbhcemlnojejaadoor", sum := "975d6ed97abd7c0945a5ad710b067591403267f89517b52fe684d5d8c505810b", func := "nameplan/nameplanlaw28.IterateMatchesReference", spec := "iterateMatchesReference", inPlace := ["internal/bytealg.IndexByteString"], unfollowed := true, recurses := true, named := ["nameplan/record.rules"], plainKeys := false, apart := false, laid := [("nameplan/record.rules", laid_nameplan_record_rules)] }
def IterateMatchesReferenceSaid : Prop := iterateMatchesReferenceRow.holds Tryd.pinned (OpenSpec.ofChange iterateMatchesReferenceSpec)

/-- ITS FALSE NEIGHBOUR: 'it returns false'. Refute it at one input. -/
def iterateMatchesReferenceWrong : ChangeSpec := { name := "iterateMatchesReference", fn := fun _ => fun
  | [d1, d2, d3, d4] => { results := [.lit (.bool false)], args := [d1, d2, d3, d4] }
  | _ => none }
def IterateMatchesReferenceWrongFalsely : Prop := iterateMatchesReferenceRow.holds Tryd.pinned (OpenSpec.ofChange iterateMatchesReferenceWrong)

/-- 'nameplanlaw28.IterateKnown': WHATEVER THE INPUT: true; the input reads as it did. -/
def iterateKnownSpec : ChangeSpec := { name := "iterateKnown", fn := fun _ => fun
  | [d1, d2, d3] => { results := [.lit (.bool true)], args := [d1, d2, d3] }
  | _ => none }
def iterateKnownRow : OpenClaim := { program := "ytfbhcemlnojejaadoor", sum := "975d6ed97abd7c0945a5ad710b067591403267f89517b52fe684d5d8c505810b", func := "nameplan/nameplanlaw28.IterateKnown", spec := "iterateKnown", inPlace := ["internal/bytealg.IndexByteString"], unfollowed := true, recurses := true, named := ["nameplan/record.rules"], plainKeys := false, apart := false, laid := [("nameplan/record.rules", laid_nameplan_record_rules)] }
def IterateKnownSaid : Prop := iterateKnownRow.holds Tryd.pinned (OpenSpec.ofChange iterateKnownSpec)

/-- ITS FALSE NEIGHBOUR: 'it returns false'. Refute it at one input. -/
def iterateKnownWrong : ChangeSpec := { name := "iterateKnown", fn := fun _ => fun
  | [d1, d2, d3] => { results := [.lit (.bool false)], args := [d1, d2, d3] }
  | _ => none }
def IterateKnownWrongFalsely : Prop := iterateKnownRow.holds Tryd.pinned (OpenSpec.ofChange iterateKnownWrong)

/-- 'nameplanlaw28.IterateAsks': WHATEVER THE INPUT: true; the input reads as it did. -/
def iterateAsksSpec : ChangeSpec := { name := "iterateAsks", fn := fun _ => fun
  | [d1, d2, d3] => { results := [.lit (.bool true)], args := [d1, d2, d3] }
  | _ => none }
def iterateAsksRow : OpenClaim := { program := "ytfbhcemlnojejaadoor", sum := "975d6ed97abd7c0945a5ad710b067591403267f89517b52fe684d5d8c505810b", func := "nameplan/nameplanlaw28.IterateAsks", spec := "iterateAsks", inPlace := ["internal/bytealg.IndexByteString"], unfollowed := true, recurses := true, named := ["nameplan/record.rules"], plainKeys := false, apart := false, laid := [("nameplan/record.rules", laid_nameplan_record_rules)] }
def IterateAsksSaid : Prop := iterateAsksRow.holds Tryd.pinned (OpenSpec.ofChange iterateAsksSpec)

/-- ITS FALSE NEIGHBOUR: 'it returns false'. Refute it at one input. -/
def iterateAsksWrong : ChangeSpec := { name := "iterateAsks", fn := fun _ => fun
  | [d1, d2, d3] => { results := [.lit (.bool false)], args := [d1, d2, d3] }
  | _ => none }
def IterateAsksWrongFalsely : Prop := iterateAsksRow.holds Tryd.pinned (OpenSpec.ofChange iterateAsksWrong)

/-- 'nameplanlaw28.IterateServers': WHATEVER THE INPUT: true; the input reads as it did. -/
def iterateServersSpec : ChangeSpec := { name := "iterateServers", fn := fun _ => fun
  | [d1, d2, d3, d4, d5, d6] => { results := [.lit (.bool true)], args := [d1, d2, d3, d4, d5, d6] }
  | _ => none }
def iterateServersRow : OpenClaim := { program := "ytfbhcemlnojejaadoor", sum := "975d6ed97abd7c0945a5ad710b067591403267f89517b52fe684d5d8c505810b", func := "nameplan/nameplanlaw28.IterateServers", spec := "iterateServers", inPlace := ["internal/bytealg.IndexByteString"], unfollowed := true, recurses := true, named := ["nameplan/record.rules"], plainKeys := false, apart := false, laid := [("nameplan/record.rules", laid_nameplan_record_rules)] }
def IterateServersSaid : Prop := iterateServersRow.holds Tryd.pinned (OpenSpec.ofChange iterateServersSpec)

/-- ITS FALSE NEIGHBOUR: 'it returns false'. Refute it at one input. -/
def iterateServersWrong : ChangeSpec := { name := "iterateServers", fn := fun _ => fun
  | [d1, d2, d3, d4, d5, d6] => { results := [.lit (.bool false)], args := [d1, d2, d3, d4, d5, d6] }
  | _ => none }
def IterateServersWrongFalsely : Prop := iterateServersRow.holds Tryd.pinned (OpenSpec.ofChange iterateServersWrong)

/-- 'nameplanlaw28.IterateZones': WHATEVER THE INPUT: true; the input reads as it did. -/
def iterateZonesSpec : ChangeSpec := { name := "iterateZones", fn := fun _ => fun
  | [d1, d2] => { results := [.lit (.bool true)], args := [d1, d2] }
  | _ => none }
def iterateZonesRow : OpenClaim := { program := "ytfbhcemlnojejaadoor", sum := "975d6ed97abd7c0945a5ad710b067591403267f89517b52fe684d5d8c505810b", func := "nameplan/nameplanlaw28.IterateZones", spec := "iterateZones", inPlace := ["internal/bytealg.IndexByteString"], unfollowed := true, recurses := true, named := ["nameplan/record.rules"], plainKeys := false, apart := false, laid := [("nameplan/record.rules", laid_nameplan_record_rules)] }
def IterateZonesSaid : Prop := iterateZonesRow.holds Tryd.pinned (OpenSpec.ofChange iterateZonesSpec)

/-- ITS FALSE NEIGHBOUR: 'it returns false'. Refute it at one input. -/
def iterateZonesWrong : ChangeSpec := { name := "iterateZones", fn := fun _ => fun
  | [d1, d2] => { results := [.lit (.bool false)], args := [d1, d2] }
  | _ => none }
def IterateZonesWrongFalsely : Prop := iterateZonesRow.holds Tryd.pinned (OpenSpec.ofChange iterateZonesWrong)

/- THE SECOND FORM. 'bulk': how many values and letters a reading holds, each counted each time it is reached (what is shared counts as often as it is met; a slice's spare places count too). A statement '..UptoSaid' is the law's where the arguments, and the package variables that the reading takes, are together of bulk at most 1048576: NARROWER than '..Said'. Prove '..Said' where nothing that the law and all that it calls make is longer than what came in: it says more and counts as full. Else prove '..UptoSaid'. A law counts once. -/
mutual
def uptoBulk {H : Type} : DataW H → Nat
  | .lit (.string bytes) => bytes.length + 1
  | .lit _ => 1
  | .nil => 1
  | .ptr d => uptoBulk d + 1
  | .slice elems spare => uptoBulkAll elems + uptoBulkAll spare + 1
  | .agg parts => uptoBulkAll parts + 1
  | .iface _ d => uptoBulk d + 1
  | .map entries => uptoBulkEntries entries + 1
  | .held _ => 1
def uptoBulkAll {H : Type} : List (DataW H) → Nat
  | [] => 0
  | d :: r => uptoBulk d + uptoBulkAll r
def uptoBulkEntries {H : Type} : List (Lit × DataW H) → Nat
  | [] => 0
  | x :: r => uptoBulkEntry x + uptoBulkEntries r
def uptoBulkEntry {H : Type} : Lit × DataW H → Nat
  | (.string bytes, d) => bytes.length + uptoBulk d + 1
  | (_, d) => uptoBulk d + 1
 end
def uptoSmall : (H : Type) → List (DataW H) → Bool := fun _ ds => decide (uptoBulkAll ds ≤ 1048576)
def OpenSpec.upto (s : _root_.Go.ChangeSpec) : _root_.Go.OpenSpec := { _root_.Go.OpenSpec.ofChange s with cond := some uptoSmall }

/-- 'nameplanlaw10.TrustMatchesReference', WHERE WHAT IT READS IS OF BULK AT MOST 1048576: true; the input reads as it did. -/
def trustMatchesReferenceUptoRow : OpenClaim := { program := "ytfbhcemlnojejaadoor", sum := "975d6ed97abd7c0945a5ad710b067591403267f89517b52fe684d5d8c505810b", func := "nameplan/nameplanlaw10.TrustMatchesReference", spec := "trustMatchesReference", unfollowed := true, recurses := true, named := ["nameplan/record.rules"], plainKeys := false, apart := false, laid := [("nameplan/record.rules", laid_nameplan_record_rules)], narrowed := true }
def TrustMatchesReferenceUptoSaid : Prop := trustMatchesReferenceUptoRow.holds Tryd.pinned (OpenSpec.upto trustMatchesReferenceSpec)

/-- 'nameplanlaw10.TrustSigned', WHERE WHAT IT READS IS OF BULK AT MOST 1048576: true; the input reads as it did. -/
def trustSignedUptoRow : OpenClaim := { program := "ytfbhcemlnojejaadoor", sum := "975d6ed97abd7c0945a5ad710b067591403267f89517b52fe684d5d8c505810b", func := "nameplan/nameplanlaw10.TrustSigned", spec := "trustSigned", unfollowed := true, recurses := true, named := ["nameplan/record.rules"], plainKeys := false, apart := false, laid := [("nameplan/record.rules", laid_nameplan_record_rules)], narrowed := true }
def TrustSignedUptoSaid : Prop := trustSignedUptoRow.holds Tryd.pinned (OpenSpec.upto trustSignedSpec)

/-- 'nameplanlaw10.TrustTimes', WHERE WHAT IT READS IS OF BULK AT MOST 1048576: true; the input reads as it did. -/
def trustTimesUptoRow : OpenClaim := { program := "ytfbhcemlnojejaadoor", sum := "975d6ed97abd7c0945a5ad710b067591403267f89517b52fe684d5d8c505810b", func := "nameplan/nameplanlaw10.TrustTimes", spec := "trustTimes", unfollowed := true, recurses := true, named := ["nameplan/record.rules"], plainKeys := false, apart := false, laid := [("nameplan/record.rules", laid_nameplan_record_rules)], narrowed := true }
def TrustTimesUptoSaid : Prop := trustTimesUptoRow.holds Tryd.pinned (OpenSpec.upto trustTimesSpec)

/-- 'nameplanlaw10.TrustChains', WHERE WHAT IT READS IS OF BULK AT MOST 1048576: true; the input reads as it did. -/
def trustChainsUptoRow : OpenClaim := { program := "ytfbhcemlnojejaadoor", sum := "975d6ed97abd7c0945a5ad710b067591403267f89517b52fe684d5d8c505810b", func := "nameplan/nameplanlaw10.TrustChains", spec := "trustChains", unfollowed := true, recurses := true, named := ["nameplan/record.rules"], plainKeys := false, apart := false, laid := [("nameplan/record.rules", laid_nameplan_record_rules)], narrowed := true }
def TrustChainsUptoSaid : Prop := trustChainsUptoRow.holds Tryd.pinned (OpenSpec.upto trustChainsSpec)

/-- 'nameplanlaw10.TrustFurther', WHERE WHAT IT READS IS OF BULK AT MOST 1048576: true; the input reads as it did. -/
def trustFurtherUptoRow : OpenClaim := { program := "ytfbhcemlnojejaadoor", sum := "975d6ed97abd7c0945a5ad710b067591403267f89517b52fe684d5d8c505810b", func := "nameplan/nameplanlaw10.TrustFurther", spec := "trustFurther", unfollowed := true, recurses := true, named := ["nameplan/record.rules"], plainKeys := false, apart := false, laid := [("nameplan/record.rules", laid_nameplan_record_rules)], narrowed := true }
def TrustFurtherUptoSaid : Prop := trustFurtherUptoRow.holds Tryd.pinned (OpenSpec.upto trustFurtherSpec)

/-- 'nameplanlaw10.TrustWays', WHERE WHAT IT READS IS OF BULK AT MOST 1048576: true; the input reads as it did. -/
def trustWaysUptoRow : OpenClaim := { program := "ytfbhcemlnojejaadoor", sum := "975d6ed97abd7c0945a5ad710b067591403267f89517b52fe684d5d8c505810b", func := "nameplan/nameplanlaw10.TrustWays", spec := "trustWays", unfollowed := true, recurses := true, named := ["nameplan/record.rules"], plainKeys := false, apart := false, laid := [("nameplan/record.rules", laid_nameplan_record_rules)], narrowed := true }
def TrustWaysUptoSaid : Prop := trustWaysUptoRow.holds Tryd.pinned (OpenSpec.upto trustWaysSpec)

/-- 'nameplanlaw28.IterateMatchesReference', WHERE WHAT IT READS IS OF BULK AT MOST 1048576: true; the input reads as it did. -/
def iterateMatchesReferenceUptoRow : OpenClaim := { program := "ytfbhcemlnojejaadoor", sum := "975d6ed97abd7c0945a5ad710b067591403267f89517b52fe684d5d8c505810b", func := "nameplan/nameplanlaw28.IterateMatchesReference", spec := "iterateMatchesReference", inPlace := ["internal/bytealg.IndexByteString"], unfollowed := true, recurses := true, named := ["nameplan/record.rules"], plainKeys := false, apart := false, laid := [("nameplan/record.rules", laid_nameplan_record_rules)], narrowed := true }
def IterateMatchesReferenceUptoSaid : Prop := iterateMatchesReferenceUptoRow.holds Tryd.pinned (OpenSpec.upto iterateMatchesReferenceSpec)

/-- 'nameplanlaw28.IterateKnown', WHERE WHAT IT READS IS OF BULK AT MOST 1048576: true; the input reads as it did. -/
def iterateKnownUptoRow : OpenClaim := { program := "ytfbhcemlnojejaadoor", sum := "975d6ed97abd7c0945a5ad710b067591403267f89517b52fe684d5d8c505810b", func := "nameplan/nameplanlaw28.IterateKnown", spec := "iterateKnown", inPlace := ["internal/bytealg.IndexByteString"], unfollowed := true, recurses := true, named := ["nameplan/record.rules"], plainKeys := false, apart := false, laid := [("nameplan/record.rules", laid_nameplan_record_rules)], narrowed := true }
def IterateKnownUptoSaid : Prop := iterateKnownUptoRow.holds Tryd.pinned (OpenSpec.upto iterateKnownSpec)

/-- 'nameplanlaw28.IterateAsks', WHERE WHAT IT READS IS OF BULK AT MOST 1048576: true; the input reads as it did. -/
def iterateAsksUptoRow : OpenClaim := { program := "ytfbhcemlnojejaadoor", sum := "975d6ed97abd7c0945a5ad710b067591403267f89517b52fe684d5d8c505810b", func := "nameplan/nameplanlaw28.IterateAsks", spec := "iterateAsks", inPlace := ["internal/bytealg.IndexByteString"], unfollowed := true, recurses := true, named := ["nameplan/record.rules"], plainKeys := false, apart := false, laid := [("nameplan/record.rules", laid_nameplan_record_rules)], narrowed := true }
def IterateAsksUptoSaid : Prop := iterateAsksUptoRow.holds Tryd.pinned (OpenSpec.upto iterateAsksSpec)

/-- 'nameplanlaw28.IterateServers', WHERE WHAT IT READS IS OF BULK AT MOST 1048576: true; the input reads as it did. -/
def iterateServersUptoRow : OpenClaim := { program := "ytfbhcemlnojejaadoor", sum := "975d6ed97abd7c0945a5ad710b067591403267f89517b52fe684d5d8c505810b", func := "nameplan/nameplanlaw28.IterateServers", spec := "iterateServers", inPlace := ["internal/bytealg.IndexByteString"], unfollowed := true, recurses := true, named := ["nameplan/record.rules"], plainKeys := false, apart := false, laid := [("nameplan/record.rules", laid_nameplan_record_rules)], narrowed := true }
def IterateServersUptoSaid : Prop := iterateServersUptoRow.holds Tryd.pinned (OpenSpec.upto iterateServersSpec)

/-- 'nameplanlaw28.IterateZones', WHERE WHAT IT READS IS OF BULK AT MOST 1048576: true; the input reads as it did. -/
def iterateZonesUptoRow : OpenClaim := { program := "ytfbhcemlnojejaadoor", sum := "975d6ed97abd7c0945a5ad710b067591403267f89517b52fe684d5d8c505810b", func := "nameplan/nameplanlaw28.IterateZones", spec := "iterateZones", inPlace := ["internal/bytealg.IndexByteString"], unfollowed := true, recurses := true, named := ["nameplan/record.rules"], plainKeys := false, apart := false, laid := [("nameplan/record.rules", laid_nameplan_record_rules)], narrowed := true }
def IterateZonesUptoSaid : Prop := iterateZonesUptoRow.holds Tryd.pinned (OpenSpec.upto iterateZonesSpec)

end Rows
end Go.Proofs.YtfbhcemlnojejaaDoor
