/-
  NARROWER THAN 'FOR EVERY INPUT', by the rows' own cells (each row's printed sentence says how): ForwardMatchesReference: laid · ForwardForged: laid · ForwardRounds: laid · ForwardAnswered: laid · ForwardRefused: laid · ForwardHonest: laid · CacheUse: laid · CacheOthers: laid · CacheAgain: laid · CacheDenials: laid · CacheTime: laid.
  DERIVED. THE GIVEN ROWS OF THIS SEAT. 11 by the template 'for every input the law returns true; each argument reads behind the call as it read before'; 0 by the template 'total and deterministic' (their statements: YtohfliekhbpopaaDoorTotals.lean).
  GIVEN WITH THE SEED: the statements are not yours to turn. If you find one false, say at which input.
  Laid BY PROGRAM, IN A SANDBOX (cutbox-rows.mjs): the forced cells as the released guide's own fill.sh prints them over the translation 969780715a1fa1be… (all of the seat's roots in one cut). By AI agents, Wed Nov 11 2026. No macro, syntax, notation, axiom, sorry.
-/
import Derived.Test.YtohfliekhbpopaaDoorChecked
import GoSem.Claim
import GoSem.ClaimJoined
import GoSem.ClaimMapViews
import Derived.JoinedTies
import Derived.KernelRfl
namespace Go.Proofs.YtohfliekhbpopaaDoor
/- THE CELL 'sum', in the pinned program and in every row, IS THE sha256 OF THE DUMP (.gsa) THAT YtohfliekhbpopaaDoorProg.lean LOADS. Nothing in Lean hashes anything: it is a label: what it is worth is what the hold of that sum in a sandbox is worth. -/
noncomputable def Tryd.pinned : Pinned := { name := "ytohfliekhbpopaadoor", sum := "969780715a1fa1be5e5273d0b3cfcf57d653c3f7a7aed24f14fd798a4a8c3dfe", checked := Tryd.checked }
namespace Rows
def none {H : Type} : Left H := { results := [], args := [] }

/- WHAT THE LISTED PACKAGE-LEVEL VARIABLES READ AS WHEN THE CALL BEGINS. Each datum BY PROGRAM (the guide's laid-datum.mjs) off the statement by which the dump's own 'gosem.cut.vars' lays the variable. In a bare row this is a premise. The card (YtohfliekhbpopaaDoorCards.lean) ties it to the program's text. -/
def laid_nameplan_record_rules {H : Type} : DataW H := .agg [.agg [.lit (.int .i64 0), .lit (.int .i64 0), .lit (.int .i64 0), .lit (.int .i64 0), .lit (.int .i64 0), .lit (.bool false), .lit (.bool false), .lit (.bool false)], .agg [.lit (.int .i64 0), .lit (.int .i64 1), .lit (.int .i64 1000000), .lit (.int .i64 0), .lit (.int .i64 0), .lit (.bool false), .lit (.bool false), .lit (.bool true)], .agg [.lit (.int .i64 1), .lit (.int .i64 0), .lit (.int .i64 0), .lit (.int .i64 0), .lit (.int .i64 0), .lit (.bool false), .lit (.bool false), .lit (.bool false)], .agg [.lit (.int .i64 1), .lit (.int .i64 0), .lit (.int .i64 0), .lit (.int .i64 0), .lit (.int .i64 0), .lit (.bool false), .lit (.bool true), .lit (.bool false)], .agg [.lit (.int .i64 0), .lit (.int .i64 0), .lit (.int .i64 65535), .lit (.int .i64 0), .lit (.int .i64 100000), .lit (.bool false), .lit (.bool true), .lit (.bool false)], .agg [.lit (.int .i64 3), .lit (.int .i64 0), .lit (.int .i64 0), .lit (.int .i64 0), .lit (.int .i64 0), .lit (.bool false), .lit (.bool false), .lit (.bool true)], .agg [.lit (.int .i64 0), .lit (.int .i64 1), .lit (.int .i64 1000000), .lit (.int .i64 1), .lit (.int .i64 3), .lit (.bool false), .lit (.bool false), .lit (.bool false)], .agg [.lit (.int .i64 0), .lit (.int .i64 1), .lit (.int .i64 1000000), .lit (.int .i64 1), .lit (.int .i64 3), .lit (.bool false), .lit (.bool false), .lit (.bool false)], .agg [.lit (.int .i64 2), .lit (.int .i64 2), .lit (.int .i64 510), .lit (.int .i64 0), .lit (.int .i64 0), .lit (.bool true), .lit (.bool false), .lit (.bool true)]]

/-- 'nameplanlaw29.ForwardMatchesReference': WHATEVER THE INPUT: true; the input reads as it did. -/
def forwardMatchesReferenceSpec : ChangeSpec := { name := "forwardMatchesReference", fn := fun _ => fun
  | [d1, d2, d3, d4, d5] => { results := [.lit (.bool true)], args := [d1, d2, d3, d4, d5] }
  | _ => none }
def forwardMatchesReferenceRow : OpenClaim := { program := "ytohfliekhbpopaadoor", sum := "969780715a1fa1be5e5273d0b3cfcf57d653c3f7a7aed24f14fd798a4a8c3dfe", func := "nameplan/nameplanlaw29.ForwardMatchesReference", spec := "forwardMatchesReference", unfollowed := true, recurses := true, named := ["nameplan/record.rules"], plainKeys := false, apart := false, laid := [("nameplan/record.rules", laid_nameplan_record_rules)] }
def ForwardMatchesReferenceSaid : Prop := forwardMatchesReferenceRow.holds Tryd.pinned (OpenSpec.ofChange forwardMatchesReferenceSpec)

/-- ITS FALSE NEIGHBOUR: 'it returns false'. Refute it at one input. -/
def forwardMatchesReferenceWrong : ChangeSpec := { name := "forwardMatchesReference", fn := fun _ => fun
  | [d1, d2, d3, d4, d5] => { results := [.lit (.bool false)], args := [d1, d2, d3, d4, d5] }
  | _ => none }
def ForwardMatchesReferenceWrongFalsely : Prop := forwardMatchesReferenceRow.holds Tryd.pinned (OpenSpec.ofChange forwardMatchesReferenceWrong)

/-- 'nameplanlaw29.ForwardForged': WHATEVER THE INPUT: true; the input reads as it did. -/
def forwardForgedSpec : ChangeSpec := { name := "forwardForged", fn := fun _ => fun
  | [d1, d2, d3] => { results := [.lit (.bool true)], args := [d1, d2, d3] }
  | _ => none }
def forwardForgedRow : OpenClaim := { program := "ytohfliekhbpopaadoor", sum := "969780715a1fa1be5e5273d0b3cfcf57d653c3f7a7aed24f14fd798a4a8c3dfe", func := "nameplan/nameplanlaw29.ForwardForged", spec := "forwardForged", unfollowed := true, recurses := true, named := ["nameplan/record.rules"], plainKeys := false, apart := false, laid := [("nameplan/record.rules", laid_nameplan_record_rules)] }
def ForwardForgedSaid : Prop := forwardForgedRow.holds Tryd.pinned (OpenSpec.ofChange forwardForgedSpec)

/-- ITS FALSE NEIGHBOUR: 'it returns false'. Refute it at one input. -/
def forwardForgedWrong : ChangeSpec := { name := "forwardForged", fn := fun _ => fun
  | [d1, d2, d3] => { results := [.lit (.bool false)], args := [d1, d2, d3] }
  | _ => none }
def ForwardForgedWrongFalsely : Prop := forwardForgedRow.holds Tryd.pinned (OpenSpec.ofChange forwardForgedWrong)

/-- 'nameplanlaw29.ForwardRounds': WHATEVER THE INPUT: true; the input reads as it did. -/
def forwardRoundsSpec : ChangeSpec := { name := "forwardRounds", fn := fun _ => fun
  | [d1, d2, d3, d4, d5, d6] => { results := [.lit (.bool true)], args := [d1, d2, d3, d4, d5, d6] }
  | _ => none }
def forwardRoundsRow : OpenClaim := { program := "ytohfliekhbpopaadoor", sum := "969780715a1fa1be5e5273d0b3cfcf57d653c3f7a7aed24f14fd798a4a8c3dfe", func := "nameplan/nameplanlaw29.ForwardRounds", spec := "forwardRounds", unfollowed := true, recurses := true, named := ["nameplan/record.rules"], plainKeys := false, apart := false, laid := [("nameplan/record.rules", laid_nameplan_record_rules)] }
def ForwardRoundsSaid : Prop := forwardRoundsRow.holds Tryd.pinned (OpenSpec.ofChange forwardRoundsSpec)

/-- ITS FALSE NEIGHBOUR: 'it returns false'. Refute it at one input. -/
def forwardRoundsWrong : ChangeSpec := { name := "forwardRounds", fn := fun _ => fun
  | [d1, d2, d3, d4, d5, d6] => { results := [.lit (.bool false)], args := [d1, d2, d3, d4, d5, d6] }
  | _ => none }
def ForwardRoundsWrongFalsely : Prop := forwardRoundsRow.holds Tryd.pinned (OpenSpec.ofChange forwardRoundsWrong)

/-- 'nameplanlaw29.ForwardAnswered': WHATEVER THE INPUT: true; the input reads as it did. -/
def forwardAnsweredSpec : ChangeSpec := { name := "forwardAnswered", fn := fun _ => fun
  | [d1, d2, d3] => { results := [.lit (.bool true)], args := [d1, d2, d3] }
  | _ => none }
def forwardAnsweredRow : OpenClaim := { program := "ytohfliekhbpopaadoor", sum := "969780715a1fa1be5e5273d0b3cfcf57d653c3f7a7aed24f14fd798a4a8c3dfe", func := "nameplan/nameplanlaw29.ForwardAnswered", spec := "forwardAnswered", unfollowed := true, recurses := true, named := ["nameplan/record.rules"], plainKeys := false, apart := false, laid := [("nameplan/record.rules", laid_nameplan_record_rules)] }
def ForwardAnsweredSaid : Prop := forwardAnsweredRow.holds Tryd.pinned (OpenSpec.ofChange forwardAnsweredSpec)

/-- ITS FALSE NEIGHBOUR: 'it returns false'. Refute it at one input. -/
def forwardAnsweredWrong : ChangeSpec := { name := "forwardAnswered", fn := fun _ => fun
  | [d1, d2, d3] => { results := [.lit (.bool false)], args := [d1, d2, d3] }
  | _ => none }
def ForwardAnsweredWrongFalsely : Prop := forwardAnsweredRow.holds Tryd.pinned (OpenSpec.ofChange forwardAnsweredWrong)

/-- 'nameplanlaw29.ForwardRefused': WHATEVER THE INPUT: true; the input reads as it did. -/
def forwardRefusedSpec : ChangeSpec := { name := "forwardRefused", fn := fun _ => fun
  | [d1, d2] => { results := [.lit (.bool true)], args := [d1, d2] }
  | _ => none }
def forwardRefusedRow : OpenClaim := { program := "ytohfliekhbpopaadoor", sum := "969780715a1fa1be5e5273d0b3cfcf57d653c3f7a7aed24f14fd798a4a8c3dfe", func := "nameplan/nameplanlaw29.ForwardRefused", spec := "forwardRefused", unfollowed := true, recurses := true, named := ["nameplan/record.rules"], plainKeys := false, apart := false, laid := [("nameplan/record.rules", laid_nameplan_record_rules)] }
def ForwardRefusedSaid : Prop := forwardRefusedRow.holds Tryd.pinned (OpenSpec.ofChange forwardRefusedSpec)

/-- ITS FALSE NEIGHBOUR: 'it returns false'. Refute it at one input. -/
def forwardRefusedWrong : ChangeSpec := { name := "forwardRefused", fn := fun _ => fun
  | [d1, d2] => { results := [.lit (.bool false)], args := [d1, d2] }
  | _ => none }
def ForwardRefusedWrongFalsely : Prop := forwardRefusedRow.holds Tryd.pinned (OpenSpec.ofChange forwardRefusedWrong)

/-- 'nameplanlaw29.ForwardHonest': WHATEVER THE INPUT: true; the input reads as it did. -/
def forwardHonestSpec : ChangeSpec := { name := "forwardHonest", fn := fun _ => fun
  | [d1, d2, d3, d4, d5, d6] => { results := [.lit (.bool true)], args := [d1, d2, d3, d4, d5, d6] }
  | _ => none }
def forwardHonestRow : OpenClaim := { program := "ytohfliekhbpopaadoor", sum := "969780715a1fa1be5e5273d0b3cfcf57d653c3f7a7aed24f14fd798a4a8c3dfe", func := "nameplan/nameplanlaw29.ForwardHonest", spec := "forwardHonest", unfollowed := true, recurses := true, named := ["nameplan/record.rules"], plainKeys := false, apart := false, laid := [("nameplan/record.rules", laid_nameplan_record_rules)] }
def ForwardHonestSaid : Prop := forwardHonestRow.holds Tryd.pinned (OpenSpec.ofChange forwardHonestSpec)

/-- ITS FALSE NEIGHBOUR: 'it returns false'. Refute it at one input. -/
def forwardHonestWrong : ChangeSpec := { name := "forwardHonest", fn := fun _ => fun
  | [d1, d2, d3, d4, d5, d6] => { results := [.lit (.bool false)], args := [d1, d2, d3, d4, d5, d6] }
  | _ => none }
def ForwardHonestWrongFalsely : Prop := forwardHonestRow.holds Tryd.pinned (OpenSpec.ofChange forwardHonestWrong)

/-- 'nameplanlaw22.CacheUse': WHATEVER THE INPUT: true; the input reads as it did. -/
def cacheUseSpec : ChangeSpec := { name := "cacheUse", fn := fun _ => fun
  | [d1, d2, d3, d4, d5] => { results := [.lit (.bool true)], args := [d1, d2, d3, d4, d5] }
  | _ => none }
def cacheUseRow : OpenClaim := { program := "ytohfliekhbpopaadoor", sum := "969780715a1fa1be5e5273d0b3cfcf57d653c3f7a7aed24f14fd798a4a8c3dfe", func := "nameplan/nameplanlaw22.CacheUse", spec := "cacheUse", unfollowed := true, recurses := true, named := ["nameplan/record.rules"], plainKeys := false, apart := false, laid := [("nameplan/record.rules", laid_nameplan_record_rules)] }
def CacheUseSaid : Prop := cacheUseRow.holds Tryd.pinned (OpenSpec.ofChange cacheUseSpec)

/-- ITS FALSE NEIGHBOUR: 'it returns false'. Refute it at one input. -/
def cacheUseWrong : ChangeSpec := { name := "cacheUse", fn := fun _ => fun
  | [d1, d2, d3, d4, d5] => { results := [.lit (.bool false)], args := [d1, d2, d3, d4, d5] }
  | _ => none }
def CacheUseWrongFalsely : Prop := cacheUseRow.holds Tryd.pinned (OpenSpec.ofChange cacheUseWrong)

/-- 'nameplanlaw22.CacheOthers': WHATEVER THE INPUT: true; the input reads as it did. -/
def cacheOthersSpec : ChangeSpec := { name := "cacheOthers", fn := fun _ => fun
  | [d1, d2, d3, d4, d5, d6, d7] => { results := [.lit (.bool true)], args := [d1, d2, d3, d4, d5, d6, d7] }
  | _ => none }
def cacheOthersRow : OpenClaim := { program := "ytohfliekhbpopaadoor", sum := "969780715a1fa1be5e5273d0b3cfcf57d653c3f7a7aed24f14fd798a4a8c3dfe", func := "nameplan/nameplanlaw22.CacheOthers", spec := "cacheOthers", unfollowed := true, recurses := true, named := ["nameplan/record.rules"], plainKeys := false, apart := false, laid := [("nameplan/record.rules", laid_nameplan_record_rules)] }
def CacheOthersSaid : Prop := cacheOthersRow.holds Tryd.pinned (OpenSpec.ofChange cacheOthersSpec)

/-- ITS FALSE NEIGHBOUR: 'it returns false'. Refute it at one input. -/
def cacheOthersWrong : ChangeSpec := { name := "cacheOthers", fn := fun _ => fun
  | [d1, d2, d3, d4, d5, d6, d7] => { results := [.lit (.bool false)], args := [d1, d2, d3, d4, d5, d6, d7] }
  | _ => none }
def CacheOthersWrongFalsely : Prop := cacheOthersRow.holds Tryd.pinned (OpenSpec.ofChange cacheOthersWrong)

/-- 'nameplanlaw22.CacheAgain': WHATEVER THE INPUT: true; the input reads as it did. -/
def cacheAgainSpec : ChangeSpec := { name := "cacheAgain", fn := fun _ => fun
  | [d1, d2, d3, d4, d5, d6, d7] => { results := [.lit (.bool true)], args := [d1, d2, d3, d4, d5, d6, d7] }
  | _ => none }
def cacheAgainRow : OpenClaim := { program := "ytohfliekhbpopaadoor", sum := "969780715a1fa1be5e5273d0b3cfcf57d653c3f7a7aed24f14fd798a4a8c3dfe", func := "nameplan/nameplanlaw22.CacheAgain", spec := "cacheAgain", unfollowed := true, recurses := true, named := ["nameplan/record.rules"], plainKeys := false, apart := false, laid := [("nameplan/record.rules", laid_nameplan_record_rules)] }
def CacheAgainSaid : Prop := cacheAgainRow.holds Tryd.pinned (OpenSpec.ofChange cacheAgainSpec)

/-- ITS FALSE NEIGHBOUR: 'it returns false'. Refute it at one input. -/
def cacheAgainWrong : ChangeSpec := { name := "cacheAgain", fn := fun _ => fun
  | [d1, d2, d3, d4, d5, d6, d7] => { results := [.lit (.bool false)], args := [d1, d2, d3, d4, d5, d6, d7] }
  | _ => none }
def CacheAgainWrongFalsely : Prop := cacheAgainRow.holds Tryd.pinned (OpenSpec.ofChange cacheAgainWrong)

/-- 'nameplanlaw22.CacheDenials': WHATEVER THE INPUT: true; the input reads as it did. -/
def cacheDenialsSpec : ChangeSpec := { name := "cacheDenials", fn := fun _ => fun
  | [d1, d2, d3, d4, d5, d6] => { results := [.lit (.bool true)], args := [d1, d2, d3, d4, d5, d6] }
  | _ => none }
def cacheDenialsRow : OpenClaim := { program := "ytohfliekhbpopaadoor", sum := "969780715a1fa1be5e5273d0b3cfcf57d653c3f7a7aed24f14fd798a4a8c3dfe", func := "nameplan/nameplanlaw22.CacheDenials", spec := "cacheDenials", unfollowed := true, recurses := true, named := ["nameplan/record.rules"], plainKeys := false, apart := false, laid := [("nameplan/record.rules", laid_nameplan_record_rules)] }
def CacheDenialsSaid : Prop := cacheDenialsRow.holds Tryd.pinned (OpenSpec.ofChange cacheDenialsSpec)

/-- ITS FALSE NEIGHBOUR: 'it returns false'. Refute it at one input. -/
def cacheDenialsWrong : ChangeSpec := { name := "cacheDenials", fn := fun _ => fun
  | [d1, d2, d3, d4, d5, d6] => { results := [.lit (.bool false)], args := [d1, d2, d3, d4, d5, d6] }
  | _ => none }
def CacheDenialsWrongFalsely : Prop := cacheDenialsRow.holds Tryd.pinned (OpenSpec.ofChange cacheDenialsWrong)

/-- 'nameplanlaw22.CacheTime': WHATEVER THE INPUT: true; the input reads as it did. -/
def cacheTimeSpec : ChangeSpec := { name := "cacheTime", fn := fun _ => fun
  | [d1, d2, d3, d4] => { results := [.lit (.bool true)], args := [d1, d2, d3, d4] }
  | _ => none }
def cacheTimeRow : OpenClaim := { program := "ytohfliekhbpopaadoor", sum := "969780715a1fa1be5e5273d0b3cfcf57d653c3f7a7aed24f14fd798a4a8c3dfe", func := "nameplan/nameplanlaw22.CacheTime", spec := "cacheTime", unfollowed := true, recurses := true, named := ["nameplan/record.rules"], plainKeys := false, apart := false, laid := [("nameplan/record.rules", laid_nameplan_record_rules)] }
def CacheTimeSaid : Prop := cacheTimeRow.holds Tryd.pinned (OpenSpec.ofChange cacheTimeSpec)

/-- ITS FALSE NEIGHBOUR: 'it returns false'. Refute it at one input. -/
def cacheTimeWrong : ChangeSpec := { name := "cacheTime", fn := fun _ => fun
  | [d1, d2, d3, d4] => { results := [.lit (.bool false)], args := [d1, d2, d3, d4] }
  | _ => none }
def CacheTimeWrongFalsely : Prop := cacheTimeRow.holds Tryd.pinned (OpenSpec.ofChange cacheTimeWrong)

/- THE SECOND FORM. 'bulk': how many values and letters a reading holds, each counted each time it is reached (what is shared counts as often as it is met; a slice's spare places count too). A statement '..UptoSaid' is the law's where the arguments, and the package variables that the reading takes, are together of bulk at most 1048576: NARROWER than '..Said'. Prove '..Said' where nothing that the law and all that it calls make is longer than what came in: it says more and counts as full. Else prove '..UptoSaid'. A law counts once. -/
mutual
def uptoBulk {H : Type} : DataW H → Nat
  | .lit (.string bytes) => bytes.length + 1
  | .lit _ => 1
  | .nil => 1
  | .ptr d => uptoBulk d + 1
  | .slice elems spare => uptoBulkAll elems + uptoBulkAll spare + 1
  | .agg parts => uptoBulkAll parts + 1
  | .iface _ d => uptoBulk d + 1
  | .map entries => uptoBulkEntries entries + 1
  | .held _ => 1
def uptoBulkAll {H : Type} : List (DataW H) → Nat
  | [] => 0
  | d :: r => uptoBulk d + uptoBulkAll r
def uptoBulkEntries {H : Type} : List (Lit × DataW H) → Nat
  | [] => 0
  | x :: r => uptoBulkEntry x + uptoBulkEntries r
def uptoBulkEntry {H : Type} : Lit × DataW H → Nat
  | (.string bytes, d) => bytes.length + uptoBulk d + 1
  | (_, d) => uptoBulk d + 1
 end
def uptoSmall : (H : Type) → List (DataW H) → Bool := fun _ ds => decide (uptoBulkAll ds ≤ 1048576)
def OpenSpec.upto (s : _root_.Go.ChangeSpec) : _root_.Go.OpenSpec := { _root_.Go.OpenSpec.ofChange s with cond := some uptoSmall }

/-- 'nameplanlaw29.ForwardMatchesReference', WHERE WHAT IT READS IS OF BULK AT MOST 1048576: true; the input reads as it did. -/
def forwardMatchesReferenceUptoRow : OpenClaim := { program := "ytohfliekhbpopaadoor", sum := "969780715a1fa1be5e5273d0b3cfcf57d653c3f7a7aed24f14fd798a4a8c3dfe", func := "nameplan/nameplanlaw29.ForwardMatchesReference", spec := "forwardMatchesReference", unfollowed := true, recurses := true, named := ["nameplan/record.rules"], plainKeys := false, apart := false, laid := [("nameplan/record.rules", laid_nameplan_record_rules)], narrowed := true }
def ForwardMatchesReferenceUptoSaid : Prop := forwardMatchesReferenceUptoRow.holds Tryd.pinned (OpenSpec.upto forwardMatchesReferenceSpec)

/-- 'nameplanlaw29.ForwardForged', WHERE WHAT IT READS IS OF BULK AT MOST 1048576: true; the input reads as it did. -/
def forwardForgedUptoRow : OpenClaim := { program := "ytohfliekhbpopaadoor", sum := "969780715a1fa1be5e5273d0b3cfcf57d653c3f7a7aed24f14fd798a4a8c3dfe", func := "nameplan/nameplanlaw29.ForwardForged", spec := "forwardForged", unfollowed := true, recurses := true, named := ["nameplan/record.rules"], plainKeys := false, apart := false, laid := [("nameplan/record.rules", laid_nameplan_record_rules)], narrowed := true }
def ForwardForgedUptoSaid : Prop := forwardForgedUptoRow.holds Tryd.pinned (OpenSpec.upto forwardForgedSpec)

/-- 'nameplanlaw29.ForwardRounds', WHERE WHAT IT READS IS OF BULK AT MOST 1048576: true; the input reads as it did. -/
def forwardRoundsUptoRow : OpenClaim := { program := "ytohfliekhbpopaadoor", sum := "969780715a1fa1be5e5273d0b3cfcf57d653c3f7a7aed24f14fd798a4a8c3dfe", func := "nameplan/nameplanlaw29.ForwardRounds", spec := "forwardRounds", unfollowed := true, recurses := true, named := ["nameplan/record.rules"], plainKeys := false, apart := false, laid := [("nameplan/record.rules", laid_nameplan_record_rules)], narrowed := true }
def ForwardRoundsUptoSaid : Prop := forwardRoundsUptoRow.holds Tryd.pinned (OpenSpec.upto forwardRoundsSpec)

/-- 'nameplanlaw29.ForwardAnswered', WHERE WHAT IT READS IS OF BULK AT MOST 1048576: true; the input reads as it did. -/
def forwardAnsweredUptoRow : OpenClaim := { program := "ytohfliekhbpopaadoor", sum := "969780715a1fa1be5e5273d0b3cfcf57d653c3f7a7aed24f14fd798a4a8c3dfe", func := "nameplan/nameplanlaw29.ForwardAnswered", spec := "forwardAnswered", unfollowed := true, recurses := true, named := ["nameplan/record.rules"], plainKeys := false, apart := false, laid := [("nameplan/record.rules", laid_nameplan_record_rules)], narrowed := true }
def ForwardAnsweredUptoSaid : Prop := forwardAnsweredUptoRow.holds Tryd.pinned (OpenSpec.upto forwardAnsweredSpec)

/-- 'nameplanlaw29.ForwardRefused', WHERE WHAT IT READS IS OF BULK AT MOST 1048576: true; the input reads as it did. -/
def forwardRefusedUptoRow : OpenClaim := { program := "ytohfliekhbpopaadoor", sum := "969780715a1fa1be5e5273d0b3cfcf57d653c3f7a7aed24f14fd798a4a8c3dfe", func := "nameplan/nameplanlaw29.ForwardRefused", spec := "forwardRefused", unfollowed := true, recurses := true, named := ["nameplan/record.rules"], plainKeys := false, apart := false, laid := [("nameplan/record.rules", laid_nameplan_record_rules)], narrowed := true }
def ForwardRefusedUptoSaid : Prop := forwardRefusedUptoRow.holds Tryd.pinned (OpenSpec.upto forwardRefusedSpec)

/-- 'nameplanlaw29.ForwardHonest', WHERE WHAT IT READS IS OF BULK AT MOST 1048576: true; the input reads as it did. -/
def forwardHonestUptoRow : OpenClaim := { program := "ytohfliekhbpopaadoor", sum := "969780715a1fa1be5e5273d0b3cfcf57d653c3f7a7aed24f14fd798a4a8c3dfe", func := "nameplan/nameplanlaw29.ForwardHonest", spec := "forwardHonest", unfollowed := true, recurses := true, named := ["nameplan/record.rules"], plainKeys := false, apart := false, laid := [("nameplan/record.rules", laid_nameplan_record_rules)], narrowed := true }
def ForwardHonestUptoSaid : Prop := forwardHonestUptoRow.holds Tryd.pinned (OpenSpec.upto forwardHonestSpec)

/-- 'nameplanlaw22.CacheUse', WHERE WHAT IT READS IS OF BULK AT MOST 1048576: true; the input reads as it did. -/
def cacheUseUptoRow : OpenClaim := { program := "ytohfliekhbpopaadoor", sum := "969780715a1fa1be5e5273d0b3cfcf57d653c3f7a7aed24f14fd798a4a8c3dfe", func := "nameplan/nameplanlaw22.CacheUse", spec := "cacheUse", unfollowed := true, recurses := true, named := ["nameplan/record.rules"], plainKeys := false, apart := false, laid := [("nameplan/record.rules", laid_nameplan_record_rules)], narrowed := true }
def CacheUseUptoSaid : Prop := cacheUseUptoRow.holds Tryd.pinned (OpenSpec.upto cacheUseSpec)

/-- 'nameplanlaw22.CacheOthers', WHERE WHAT IT READS IS OF BULK AT MOST 1048576: true; the input reads as it did. -/
def cacheOthersUptoRow : OpenClaim := { program := "ytohfliekhbpopaadoor", sum := "969780715a1fa1be5e5273d0b3cfcf57d653c3f7a7aed24f14fd798a4a8c3dfe", func := "nameplan/nameplanlaw22.CacheOthers", spec := "cacheOthers", unfollowed := true, recurses := true, named := ["nameplan/record.rules"], plainKeys := false, apart := false, laid := [("nameplan/record.rules", laid_nameplan_record_rules)], narrowed := true }
def CacheOthersUptoSaid : Prop := cacheOthersUptoRow.holds Tryd.pinned (OpenSpec.upto cacheOthersSpec)

/-- 'nameplanlaw22.CacheAgain', WHERE WHAT IT READS IS OF BULK AT MOST 1048576: true; the input reads as it did. -/
def cacheAgainUptoRow : OpenClaim := { program := "ytohfliekhbpopaadoor", sum := "969780715a1fa1be5e5273d0b3cfcf57d653c3f7a7aed24f14fd798a4a8c3dfe", func := "nameplan/nameplanlaw22.CacheAgain", spec := "cacheAgain", unfollowed := true, recurses := true, named := ["nameplan/record.rules"], plainKeys := false, apart := false, laid := [("nameplan/record.rules", laid_nameplan_record_rules)], narrowed := true }
def CacheAgainUptoSaid : Prop := cacheAgainUptoRow.holds Tryd.pinned (OpenSpec.upto cacheAgainSpec)

/-- 'nameplanlaw22.CacheDenials', WHERE WHAT IT READS IS OF BULK AT MOST 1048576: true; the input reads as it did. -/
def cacheDenialsUptoRow : OpenClaim := { program := "ytohfliekhbpopaadoor", sum := "969780715a1fa1be5e5273d0b3cfcf57d653c3f7a7aed24f14fd798a4a8c3dfe", func := "nameplan/nameplanlaw22.CacheDenials", spec := "cacheDenials", unfollowed := true, recurses := true, named := ["nameplan/record.rules"], plainKeys := false, apart := false, laid := [("nameplan/record.rules", laid_nameplan_record_rules)], narrowed := true }
def CacheDenialsUptoSaid : Prop := cacheDenialsUptoRow.holds Tryd.pinned (OpenSpec.upto cacheDenialsSpec)

/-- 'nameplanlaw22.CacheTime', WHERE WHAT IT READS IS OF BULK AT MOST 1048576: true; the input reads as it did. -/
def cacheTimeUptoRow : OpenClaim := { program := "ytohfliekhbpopaadoor", sum := "969780715a1fa1be5e5273d0b3cfcf57d653c3f7a7aed24f14fd798a4a8c3dfe", func := "nameplan/nameplanlaw22.CacheTime", spec := "cacheTime", unfollowed := true, recurses := true, named := ["nameplan/record.rules"], plainKeys := false, apart := false, laid := [("nameplan/record.rules", laid_nameplan_record_rules)], narrowed := true }
def CacheTimeUptoSaid : Prop := cacheTimeUptoRow.holds Tryd.pinned (OpenSpec.upto cacheTimeSpec)

end Rows
end Go.Proofs.YtohfliekhbpopaaDoor
