/-
  NARROWER THAN 'FOR EVERY INPUT', by the rows' own cells (each row's printed sentence says how): CacheUse: laid · CacheOthers: laid · CacheAgain: laid · CacheDenials: laid · CacheTime: laid · TrustMatchesReference: laid · TrustSigned: laid · TrustTimes: laid · TrustChains: laid · TrustFurther: laid · TrustWays: laid.
  DERIVED. THE GIVEN ROWS OF THIS SEAT. 11 by the template 'for every input the law returns true; each argument reads behind the call as it read before'; 0 by the template 'total and deterministic' (their statements: YthjegjhlmkmlmaaDoorTotals.lean).
  GIVEN WITH THE SEED: the statements are not yours to turn. If you find one false, say at which input.
  Laid BY PROGRAM, IN A SANDBOX (cutbox-rows.mjs): the forced cells as the released guide's own fill.sh prints them over the translation 0cf78b392be024cc… (all of the seat's roots in one cut). By AI agents, Wed Nov 11 2026. No macro, syntax, notation, axiom, sorry.
-/
import Derived.Test.YthjegjhlmkmlmaaDoorChecked
import GoSem.Claim
import GoSem.ClaimJoined
import GoSem.ClaimMapViews
import Derived.JoinedTies
import Derived.KernelRfl
namespace Go.Proofs.YthjegjhlmkmlmaaDoor
/- THE CELL 'sum', in the pinned program and in every row, IS THE sha256 OF THE DUMP (.gsa) THAT YthjegjhlmkmlmaaDoorProg.lean LOADS. Nothing in Lean hashes anything: it is a label: what it is worth is what the hold of that sum in a sandbox is worth. -/
noncomputable def Tryd.pinned : Pinned := { name := "ythjegjhlmkmlmaadoor", sum := "0cf78b392be024ccad1fd04cb13612543bb092f61bf4f31c063b2d0c1456f325", checked := Tryd.checked }
namespace Rows
def none {H : Type} : Left H := { results := [], args := [] }

/- WHAT THE LISTED PACKAGE-LEVEL VARIABLES READ AS WHEN THE CALL BEGINS. Each datum BY PROGRAM (the guide's laid-datum.mjs) off the statement by which the dump's own 'gosem.cut.vars' lays the variable. In a bare row this is a premise. The card (YthjegjhlmkmlmaaDoorCards.lean) ties it to the program's text. -/
def laid_nameplan_record_rules {H : Type} : DataW H := .agg [.agg [.lit (.int .i64 0), .lit (.int .i64 0), .lit (.int .i64 0), .lit (.int .i64 0), .lit (.int .i64 0), .lit (.bool false), .lit (.bool false), .lit (.bool false)], .agg [.lit (.int .i64 0), .lit (.int .i64 1), .lit (.int .i64 1000000), .lit (.int .i64 0), .lit (.int .i64 0), .lit (.bool false), .lit (.bool false), .lit (.bool true)], .agg [.lit (.int .i64 1), .lit (.int .i64 0), .lit (.int .i64 0), .lit (.int .i64 0), .lit (.int .i64 0), .lit (.bool false), .lit (.bool false), .lit (.bool false)], .agg [.lit (.int .i64 1), .lit (.int .i64 0), .lit (.int .i64 0), .lit (.int .i64 0), .lit (.int .i64 0), .lit (.bool false), .lit (.bool true), .lit (.bool false)], .agg [.lit (.int .i64 0), .lit (.int .i64 0), .lit (.int .i64 65535), .lit (.int .i64 0), .lit (.int .i64 100000), .lit (.bool false), .lit (.bool true), .lit (.bool false)], .agg [.lit (.int .i64 3), .lit (.int .i64 0), .lit (.int .i64 0), .lit (.int .i64 0), .lit (.int .i64 0), .lit (.bool false), .lit (.bool false), .lit (.bool true)], .agg [.lit (.int .i64 0), .lit (.int .i64 1), .lit (.int .i64 1000000), .lit (.int .i64 1), .lit (.int .i64 3), .lit (.bool false), .lit (.bool false), .lit (.bool false)], .agg [.lit (.int .i64 0), .lit (.int .i64 1), .lit (.int .i64 1000000), .lit (.int .i64 1), .lit (.int .i64 3), .lit (.bool false), .lit (.bool false), .lit (.bool false)], .agg [.lit (.int .i64 2), .lit (.int .i64 2), .lit (.int .i64 510), .lit (.int .i64 0), .lit (.int .i64 0), .lit (.bool true), .lit (.bool false), .lit (.bool true)]]

/-- 'nameplanlaw22.CacheUse': WHATEVER THE INPUT: true; the input reads as it did. -/
def cacheUseSpec : ChangeSpec := { name := "cacheUse", fn := fun _ => fun
  | [d1, d2, d3, d4, d5] => { results := [.lit (.bool true)], args := [d1, d2, d3, d4, d5] }
  | _ => none }
def cacheUseRow : OpenClaim := { program := "ythjegjhlmkmlmaadoor", sum := "0cf78b392be024ccad1fd04cb13612543bb092f61bf4f31c063b2d0c1456f325", func := "nameplan/nameplanlaw22.CacheUse", spec := "cacheUse", unfollowed := true, recurses := true, named := ["nameplan/record.rules"], plainKeys := false, apart := false, laid := [("nameplan/record.rules", laid_nameplan_record_rules)] }
def CacheUseSaid : Prop := cacheUseRow.holds Tryd.pinned (OpenSpec.ofChange cacheUseSpec)

/-- ITS FALSE NEIGHBOUR: 'it returns false'. Refute it at one input. -/
def cacheUseWrong : ChangeSpec := { name := "cacheUse", fn := fun _ => fun
  | [d1, d2, d3, d4, d5] => { results := [.lit (.bool false)], args := [d1, d2, d3, d4, d5] }
  | _ => none }
def CacheUseWrongFalsely : Prop := cacheUseRow.holds Tryd.pinned (OpenSpec.ofChange cacheUseWrong)

/-- 'nameplanlaw22.CacheOthers': WHATEVER THE INPUT: true; the input reads as it did. -/
def cacheOthersSpec : ChangeSpec := { name := "cacheOthers", fn := fun _ => fun
  | [d1, d2, d3, d4, d5, d6, d7] => { results := [.lit (.bool true)], args := [d1, d2, d3, d4, d5, d6, d7] }
  | _ => none }
def cacheOthersRow : OpenClaim := { program := "ythjegjhlmkmlmaadoor", sum := "0cf78b392be024ccad1fd04cb13612543bb092f61bf4f31c063b2d0c1456f325", func := "nameplan/nameplanlaw22.CacheOthers", spec := "cacheOthers", unfollowed := true, recurses := true, named := ["nameplan/record.rules"], plainKeys := false, apart := false, laid := [("nameplan/record.rules", laid_nameplan_record_rules)] }
def CacheOthersSaid : Prop := cacheOthersRow.holds Tryd.pinned (OpenSpec.ofChange cacheOthersSpec)

/-- ITS FALSE NEIGHBOUR: 'it returns false'. Refute it at one input. -/
def cacheOthersWrong : ChangeSpec := { name := "cacheOthers", fn := fun _ => fun
  | [d1, d2, d3, d4, d5, d6, d7] => { results := [.lit (.bool false)], args := [d1, d2, d3, d4, d5, d6, d7] }
  | _ => none }
def CacheOthersWrongFalsely : Prop := cacheOthersRow.holds Tryd.pinned (OpenSpec.ofChange cacheOthersWrong)

/-- 'nameplanlaw22.CacheAgain': WHATEVER THE INPUT: true; the input reads as it did. -/
def cacheAgainSpec : ChangeSpec := { name := "cacheAgain", fn := fun _ => fun
  | [d1, d2, d3, d4, d5, d6, d7] => { results := [.lit (.bool true)], args := [d1, d2, d3, d4, d5, d6, d7] }
  | _ => none }
def cacheAgainRow : OpenClaim := { program := "ythjegjhlmkmlmaadoor", sum := "0cf78b392be024ccad1fd04cb13612543bb092f61bf4f31c063b2d0c1456f325", func := "nameplan/nameplanlaw22.CacheAgain", spec := "cacheAgain", unfollowed := true, recurses := true, named := ["nameplan/record.rules"], plainKeys := false, apart := false, laid := [("nameplan/record.rules", laid_nameplan_record_rules)] }
def CacheAgainSaid : Prop := cacheAgainRow.holds Tryd.pinned (OpenSpec.ofChange cacheAgainSpec)

/-- ITS FALSE NEIGHBOUR: 'it returns false'. Refute it at one input. -/
def cacheAgainWrong : ChangeSpec := { name := "cacheAgain", fn := fun _ => fun
  | [d1, d2, d3, d4, d5, d6, d7] => { results := [.lit (.bool false)], args := [d1, d2, d3, d4, d5, d6, d7] }
  | _ => none }
def CacheAgainWrongFalsely : Prop := cacheAgainRow.holds Tryd.pinned (OpenSpec.ofChange cacheAgainWrong)

/-- 'nameplanlaw22.CacheDenials': WHATEVER THE INPUT: true; the input reads as it did. -/
def cacheDenialsSpec : ChangeSpec := { name := "cacheDenials", fn := fun _ => fun
  | [d1, d2, d3, d4, d5, d6] => { results := [.lit (.bool true)], args := [d1, d2, d3, d4, d5, d6] }
  | _ => none }
def cacheDenialsRow : OpenClaim := { program := "ythjegjhlmkmlmaadoor", sum := "0cf78b392be024ccad1fd04cb13612543bb092f61bf4f31c063b2d0c1456f325", func := "nameplan/nameplanlaw22.CacheDenials", spec := "cacheDenials", unfollowed := true, recurses := true, named := ["nameplan/record.rules"], plainKeys := false, apart := false, laid := [("nameplan/record.rules", laid_nameplan_record_rules)] }
def CacheDenialsSaid : Prop := cacheDenialsRow.holds Tryd.pinned (OpenSpec.ofChange cacheDenialsSpec)

/-- ITS FALSE NEIGHBOUR: 'it returns false'. Refute it at one input. -/
def cacheDenialsWrong : ChangeSpec := { name := "cacheDenials", fn := fun _ => fun
  | [d1, d2, d3, d4, d5, d6] => { results := [.lit (.bool false)], args := [d1, d2, d3, d4, d5, d6] }
  | _ => none }
def CacheDenialsWrongFalsely : Prop := cacheDenialsRow.holds Tryd.pinned (OpenSpec.ofChange cacheDenialsWrong)

/-- 'nameplanlaw22.CacheTime': WHATEVER THE INPUT: true; the input reads as it did. -/
def cacheTimeSpec : ChangeSpec := { name := "cacheTime", fn := fun _ => fun
  | [d1, d2, d3, d4] => { results := [.lit (.bool true)], args := [d1, d2, d3, d4] }
  | _ => none }
def cacheTimeRow : OpenClaim := { program := "ythjegjhlmkmlmaadoor", sum := "0cf78b392be024ccad1fd04cb13612543bb092f61bf4f31c063b2d0c1456f325", func := "nameplan/nameplanlaw22.CacheTime", spec := "cacheTime", unfollowed := true, recurses := true, named := ["nameplan/record.rules"], plainKeys := false, apart := false, laid := [("nameplan/record.rules", laid_nameplan_record_rules)] }
def CacheTimeSaid : Prop := cacheTimeRow.holds Tryd.pinned (OpenSpec.ofChange cacheTimeSpec)

/-- ITS FALSE NEIGHBOUR: 'it returns false'. Refute it at one input. -/
def cacheTimeWrong : ChangeSpec := { name := "cacheTime", fn := fun _ => fun
  | [d1, d2, d3, d4] => { results := [.lit (.bool false)], args := [d1, d2, d3, d4] }
  | _ => none }
def CacheTimeWrongFalsely : Prop := cacheTimeRow.holds Tryd.pinned (OpenSpec.ofChange cacheTimeWrong)

/-- 'nameplanlaw10.TrustMatchesReference': WHATEVER THE INPUT: true; the input reads as it did. -/
def trustMatchesReferenceSpec : ChangeSpec := { name := "trustMatchesReference", fn := fun _ => fun
  | [d1, d2, d3, d4, d5, d6] => { results := [.lit (.bool true)], args := [d1, d2, d3, d4, d5, d6] }
  | _ => none }
def trustMatchesReferenceRow : OpenClaim := { program := "ythjegjhlmkmlmaadoor", sum := "0cf78b392be024ccad1fd04cb13612543bb092f61bf4f31c063b2d0c1456f325", func := "nameplan/nameplanlaw10.TrustMatchesReference", spec := "trustMatchesReference", unfollowed := true, recurses := true, named := ["nameplan/record.rules"], plainKeys := false, apart := false, laid := [("nameplan/record.rules", laid_nameplan_record_rules)] }
def TrustMatchesReferenceSaid : Prop := trustMatchesReferenceRow.holds Tryd.pinned (OpenSpec.ofChange trustMatchesReferenceSpec)

/-- ITS FALSE NEIGHBOUR: 'it returns false'. Refute it at one input. -/
def trustMatchesReferenceWrong : ChangeSpec := { name := "trustMatchesReference", fn := fun _ => fun
  | [d1, d2, d3, d4, d5, d6] => { results := [.lit (.bool false)], args := [d1, d2, d3, d4, d5, d6] }
  | _ => none }
def TrustMatchesReferenceWrongFalsely : Prop := trustMatchesReferenceRow.holds Tryd.pinned (OpenSpec.ofChange trustMatchesReferenceWrong)

/-- 'nameplanlaw10.TrustSigned': WHATEVER THE INPUT: true; the input reads as it did. -/
def trustSignedSpec : ChangeSpec := { name := "trustSigned", fn := fun _ => fun
  | [d1, d2, d3, d4, d5, d6, d7, d8, d9] => { results := [.lit (.bool true)], args := [d1, d2, d3, d4, d5, d6, d7, d8, d9] }
  | _ => none }
def trustSignedRow : OpenClaim := { program := "ythjegjhlmkmlmaadoor", sum := "0cf78b392be024ccad1fd04cb13612543bb092f61bf4f31c063b2d0c1456f325", func := "nameplan/nameplanlaw10.TrustSigned", spec := "trustSigned", unfollowed := true, recurses := true, named := ["nameplan/record.rules"], plainKeys := false, apart := false, laid := [("nameplan/record.rules", laid_nameplan_record_rules)] }
def TrustSignedSaid : Prop := trustSignedRow.holds Tryd.pinned (OpenSpec.ofChange trustSignedSpec)

/-- ITS FALSE NEIGHBOUR: 'it returns false'. Refute it at one input. -/
def trustSignedWrong : ChangeSpec := { name := "trustSigned", fn := fun _ => fun
  | [d1, d2, d3, d4, d5, d6, d7, d8, d9] => { results := [.lit (.bool false)], args := [d1, d2, d3, d4, d5, d6, d7, d8, d9] }
  | _ => none }
def TrustSignedWrongFalsely : Prop := trustSignedRow.holds Tryd.pinned (OpenSpec.ofChange trustSignedWrong)

/-- 'nameplanlaw10.TrustTimes': WHATEVER THE INPUT: true; the input reads as it did. -/
def trustTimesSpec : ChangeSpec := { name := "trustTimes", fn := fun _ => fun
  | [d1, d2, d3, d4, d5, d6] => { results := [.lit (.bool true)], args := [d1, d2, d3, d4, d5, d6] }
  | _ => none }
def trustTimesRow : OpenClaim := { program := "ythjegjhlmkmlmaadoor", sum := "0cf78b392be024ccad1fd04cb13612543bb092f61bf4f31c063b2d0c1456f325", func := "nameplan/nameplanlaw10.TrustTimes", spec := "trustTimes", unfollowed := true, recurses := true, named := ["nameplan/record.rules"], plainKeys := false, apart := false, laid := [("nameplan/record.rules", laid_nameplan_record_rules)] }
def TrustTimesSaid : Prop := trustTimesRow.holds Tryd.pinned (OpenSpec.ofChange trustTimesSpec)

/-- ITS FALSE NEIGHBOUR: 'it returns false'. Refute it at one input. -/
def trustTimesWrong : ChangeSpec := { name := "trustTimes", fn := fun _ => fun
  | [d1, d2, d3, d4, d5, d6] => { results := [.lit (.bool false)], args := [d1, d2, d3, d4, d5, d6] }
  | _ => none }
def TrustTimesWrongFalsely : Prop := trustTimesRow.holds Tryd.pinned (OpenSpec.ofChange trustTimesWrong)

/-- 'nameplanlaw10.TrustChains': WHATEVER THE INPUT: true; the input reads as it did. -/
def trustChainsSpec : ChangeSpec := { name := "trustChains", fn := fun _ => fun
  | [d1, d2, d3, d4, d5] => { results := [.lit (.bool true)], args := [d1, d2, d3, d4, d5] }
  | _ => none }
def trustChainsRow : OpenClaim := { program := "ythjegjhlmkmlmaadoor", sum := "0cf78b392be024ccad1fd04cb13612543bb092f61bf4f31c063b2d0c1456f325", func := "nameplan/nameplanlaw10.TrustChains", spec := "trustChains", unfollowed := true, recurses := true, named := ["nameplan/record.rules"], plainKeys := false, apart := false, laid := [("nameplan/record.rules", laid_nameplan_record_rules)] }
def TrustChainsSaid : Prop := trustChainsRow.holds Tryd.pinned (OpenSpec.ofChange trustChainsSpec)

/-- ITS FALSE NEIGHBOUR: 'it returns false'. Refute it at one input. -/
def trustChainsWrong : ChangeSpec := { name := "trustChains", fn := fun _ => fun
  | [d1, d2, d3, d4, d5] => { results := [.lit (.bool false)], args := [d1, d2, d3, d4, d5] }
  | _ => none }
def TrustChainsWrongFalsely : Prop := trustChainsRow.holds Tryd.pinned (OpenSpec.ofChange trustChainsWrong)

/-- 'nameplanlaw10.TrustFurther': WHATEVER THE INPUT: true; the input reads as it did. -/
def trustFurtherSpec : ChangeSpec := { name := "trustFurther", fn := fun _ => fun
  | [d1, d2, d3, d4, d5, d6] => { results := [.lit (.bool true)], args := [d1, d2, d3, d4, d5, d6] }
  | _ => none }
def trustFurtherRow : OpenClaim := { program := "ythjegjhlmkmlmaadoor", sum := "0cf78b392be024ccad1fd04cb13612543bb092f61bf4f31c063b2d0c1456f325", func := "nameplan/nameplanlaw10.TrustFurther", spec := "trustFurther", unfollowed := true, recurses := true, named := ["nameplan/record.rules"], plainKeys := false, apart := false, laid := [("nameplan/record.rules", laid_nameplan_record_rules)] }
def TrustFurtherSaid : Prop := trustFurtherRow.holds Tryd.pinned (OpenSpec.ofChange trustFurtherSpec)

/-- ITS FALSE NEIGHBOUR: 'it returns false'. Refute it at one input. -/
def trustFurtherWrong : ChangeSpec := { name := "trustFurther", fn := fun _ => fun
  | [d1, d2, d3, d4, d5, d6] => { results := [.lit (.bool false)], args := [d1, d2, d3, d4, d5, d6] }
  | _ => none }
def TrustFurtherWrongFalsely : Prop := trustFurtherRow.holds Tryd.pinned (OpenSpec.ofChange trustFurtherWrong)

/-- 'nameplanlaw10.TrustWays': WHATEVER THE INPUT: true; the input reads as it did. -/
def trustWaysSpec : ChangeSpec := { name := "trustWays", fn := fun _ => fun
  | [d1, d2, d3, d4, d5] => { results := [.lit (.bool true)], args := [d1, d2, d3, d4, d5] }
  | _ => none }
def trustWaysRow : OpenClaim := { program := "ythjegjhlmkmlmaadoor", sum := "0cf78b392be024ccad1fd04cb13612543bb092f61bf4f31c063b2d0c1456f325", func := "nameplan/nameplanlaw10.TrustWays", spec := "trustWays", unfollowed := true, recurses := true, named := ["nameplan/record.rules"], plainKeys := false, apart := false, laid := [("nameplan/record.rules", laid_nameplan_record_rules)] }
def TrustWaysSaid : Prop := trustWaysRow.holds Tryd.pinned (OpenSpec.ofChange trustWaysSpec)

/-- ITS FALSE NEIGHBOUR: 'it returns false'. Refute it at one input. -/
def trustWaysWrong : ChangeSpec := { name := "trustWays", fn := fun _ => fun
  | [d1, d2, d3, d4, d5] => { results := [.lit (.bool false)], args := [d1, d2, d3, d4, d5] }
  | _ => none }
def TrustWaysWrongFalsely : Prop := trustWaysRow.holds Tryd.pinned (OpenSpec.ofChange trustWaysWrong)

/- THE SECOND FORM. 'bulk': how many values and letters a reading holds, each counted each time it is reached (what is shared counts as often as it is met; a slice's spare places count too). A statement '..UptoSaid' is the law's where the arguments, and the package variables that the reading takes, are together of bulk at most 1048576: NARROWER than '..Said'. Prove '..Said' where nothing that the law and all that it calls make is longer than what came in: it says more and counts as full. Else prove '..UptoSaid'. A law counts once. -/
mutual
def uptoBulk {H : Type} : DataW H → Nat
  | .lit (.string bytes) => bytes.length + 1
  | .lit _ => 1
  | .nil => 1
  | .ptr d => uptoBulk d + 1
  | .slice elems spare => uptoBulkAll elems + uptoBulkAll spare + 1
  | .agg parts => uptoBulkAll parts + 1
  | .iface _ d => uptoBulk d + 1
  | .map entries => uptoBulkEntries entries + 1
  | .held _ => 1
def uptoBulkAll {H : Type} : List (DataW H) → Nat
  | [] => 0
  | d :: r => uptoBulk d + uptoBulkAll r
def uptoBulkEntries {H : Type} : List (Lit × DataW H) → Nat
  | [] => 0
  | x :: r => uptoBulkEntry x + uptoBulkEntries r
def uptoBulkEntry {H : Type} : Lit × DataW H → Nat
  | (.string bytes, d) => bytes.length + uptoBulk d + 1
  | (_, d) => uptoBulk d + 1
 end
def uptoSmall : (H : Type) → List (DataW H) → Bool := fun _ ds => decide (uptoBulkAll ds ≤ 1048576)
def OpenSpec.upto (s : _root_.Go.ChangeSpec) : _root_.Go.OpenSpec := { _root_.Go.OpenSpec.ofChange s with cond := some uptoSmall }

/-- 'nameplanlaw22.CacheUse', WHERE WHAT IT READS IS OF BULK AT MOST 1048576: true; the input reads as it did. -/
def cacheUseUptoRow : OpenClaim := { program := "ythjegjhlmkmlmaadoor", sum := "0cf78b392be024ccad1fd04cb13612543bb092f61bf4f31c063b2d0c1456f325", func := "nameplan/nameplanlaw22.CacheUse", spec := "cacheUse", unfollowed := true, recurses := true, named := ["nameplan/record.rules"], plainKeys := false, apart := false, laid := [("nameplan/record.rules", laid_nameplan_record_rules)], narrowed := true }
def CacheUseUptoSaid : Prop := cacheUseUptoRow.holds Tryd.pinned (OpenSpec.upto cacheUseSpec)

/-- 'nameplanlaw22.CacheOthers', WHERE WHAT IT READS IS OF BULK AT MOST 1048576: true; the input reads as it did. -/
def cacheOthersUptoRow : OpenClaim := { program := "ythjegjhlmkmlmaadoor", sum := "0cf78b392be024ccad1fd04cb13612543bb092f61bf4f31c063b2d0c1456f325", func := "nameplan/nameplanlaw22.CacheOthers", spec := "cacheOthers", unfollowed := true, recurses := true, named := ["nameplan/record.rules"], plainKeys := false, apart := false, laid := [("nameplan/record.rules", laid_nameplan_record_rules)], narrowed := true }
def CacheOthersUptoSaid : Prop := cacheOthersUptoRow.holds Tryd.pinned (OpenSpec.upto cacheOthersSpec)

/-- 'nameplanlaw22.CacheAgain', WHERE WHAT IT READS IS OF BULK AT MOST 1048576: true; the input reads as it did. -/
def cacheAgainUptoRow : OpenClaim := { program := "ythjegjhlmkmlmaadoor", sum := "0cf78b392be024ccad1fd04cb13612543bb092f61bf4f31c063b2d0c1456f325", func := "nameplan/nameplanlaw22.CacheAgain", spec := "cacheAgain", unfollowed := true, recurses := true, named := ["nameplan/record.rules"], plainKeys := false, apart := false, laid := [("nameplan/record.rules", laid_nameplan_record_rules)], narrowed := true }
def CacheAgainUptoSaid : Prop := cacheAgainUptoRow.holds Tryd.pinned (OpenSpec.upto cacheAgainSpec)

/-- 'nameplanlaw22.CacheDenials', WHERE WHAT IT READS IS OF BULK AT MOST 1048576: true; the input reads as it did. -/
def cacheDenialsUptoRow : OpenClaim := { program := "ythjegjhlmkmlmaadoor", sum := "0cf78b392be024ccad1fd04cb13612543bb092f61bf4f31c063b2d0c1456f325", func := "nameplan/nameplanlaw22.CacheDenials", spec := "cacheDenials", unfollowed := true, recurses := true, named := ["nameplan/record.rules"], plainKeys := false, apart := false, laid := [("nameplan/record.rules", laid_nameplan_record_rules)], narrowed := true }
def CacheDenialsUptoSaid : Prop := cacheDenialsUptoRow.holds Tryd.pinned (OpenSpec.upto cacheDenialsSpec)

/-- 'nameplanlaw22.CacheTime', WHERE WHAT IT READS IS OF BULK AT MOST 1048576: true; the input reads as it did. -/
def cacheTimeUptoRow : OpenClaim := { program := "ythjegjhlmkmlmaadoor", sum := "0cf78b392be024ccad1fd04cb13612543bb092f61bf4f31c063b2d0c1456f325", func := "nameplan/nameplanlaw22.CacheTime", spec := "cacheTime", unfollowed := true, recurses := true, named := ["nameplan/record.rules"], plainKeys := false, apart := false, laid := [("nameplan/record.rules", laid_nameplan_record_rules)], narrowed := true }
def CacheTimeUptoSaid : Prop := cacheTimeUptoRow.holds Tryd.pinned (OpenSpec.upto cacheTimeSpec)

/-- 'nameplanlaw10.TrustMatchesReference', WHERE WHAT IT READS IS OF BULK AT MOST 1048576: true; the input reads as it did. -/
def trustMatchesReferenceUptoRow : OpenClaim := { program := "ythjegjhlmkmlmaadoor", sum := "0cf78b392be024ccad1fd04cb13612543bb092f61bf4f31c063b2d0c1456f325", func := "nameplan/nameplanlaw10.TrustMatchesReference", spec := "trustMatchesReference", unfollowed := true, recurses := true, named := ["nameplan/record.rules"], plainKeys := false, apart := false, laid := [("nameplan/record.rules", laid_nameplan_record_rules)], narrowed := true }
def TrustMatchesReferenceUptoSaid : Prop := trustMatchesReferenceUptoRow.holds Tryd.pinned (OpenSpec.upto trustMatchesReferenceSpec)

/-- 'nameplanlaw10.TrustSigned', WHERE WHAT IT READS IS OF BULK AT MOST 1048576: true; the input reads as it did. -/
def trustSignedUptoRow : OpenClaim := { program := "ythjegjhlmkmlmaadoor", sum := "0cf78b392be024ccad1fd04cb13612543bb092f61bf4f31c063b2d0c1456f325", func := "nameplan/nameplanlaw10.TrustSigned", spec := "trustSigned", unfollowed := true, recurses := true, named := ["nameplan/record.rules"], plainKeys := false, apart := false, laid := [("nameplan/record.rules", laid_nameplan_record_rules)], narrowed := true }
def TrustSignedUptoSaid : Prop := trustSignedUptoRow.holds Tryd.pinned (OpenSpec.upto trustSignedSpec)

/-- 'nameplanlaw10.TrustTimes', WHERE WHAT IT READS IS OF BULK AT MOST 1048576: true; the input reads as it did. -/
def trustTimesUptoRow : OpenClaim := { program := "ythjegjhlmkmlmaadoor", sum := "0cf78b392be024ccad1fd04cb13612543bb092f61bf4f31c063b2d0c1456f325", func := "nameplan/nameplanlaw10.TrustTimes", spec := "trustTimes", unfollowed := true, recurses := true, named := ["nameplan/record.rules"], plainKeys := false, apart := false, laid := [("nameplan/record.rules", laid_nameplan_record_rules)], narrowed := true }
def TrustTimesUptoSaid : Prop := trustTimesUptoRow.holds Tryd.pinned (OpenSpec.upto trustTimesSpec)

/-- 'nameplanlaw10.TrustChains', WHERE WHAT IT READS IS OF BULK AT MOST 1048576: true; the input reads as it did. -/
def trustChainsUptoRow : OpenClaim := { program := "ythjegjhlmkmlmaadoor", sum := "0cf78b392be024ccad1fd04cb13612543bb092f61bf4f31c063b2d0c1456f325", func := "nameplan/nameplanlaw10.TrustChains", spec := "trustChains", unfollowed := true, recurses := true, named := ["nameplan/record.rules"], plainKeys := false, apart := false, laid := [("nameplan/record.rules", laid_nameplan_record_rules)], narrowed := true }
def TrustChainsUptoSaid : Prop := trustChainsUptoRow.holds Tryd.pinned (OpenSpec.upto trustChainsSpec)

/-- 'nameplanlaw10.TrustFurther', WHERE WHAT IT READS IS OF BULK AT MOST 1048576: true; the input reads as it did. -/
def trustFurtherUptoRow : OpenClaim := { program := "ythjegjhlmkmlmaadoor", sum := "0cf78b392be024ccad1fd04cb13612543bb092f61bf4f31c063b2d0c1456f325", func := "nameplan/nameplanlaw10.TrustFurther", spec := "trustFurther", unfollowed := true, recurses := true, named := ["nameplan/record.rules"], plainKeys := false, apart := false, laid := [("nameplan/record.rules", laid_nameplan_record_rules)], narrowed := true }
def TrustFurtherUptoSaid : Prop := trustFurtherUptoRow.holds Tryd.pinned (OpenSpec.upto trustFurtherSpec)

/-- 'nameplanlaw10.TrustWays', WHERE WHAT IT READS IS OF BULK AT MOST 1048576: true; the input reads as it did. -/
def trustWaysUptoRow : OpenClaim := { program := "ythjegjhlmkmlmaadoor", sum := "0cf78b392be024ccad1fd04cb13612543bb092f61bf4f31c063b2d0c1456f325", func := "nameplan/nameplanlaw10.TrustWays", spec := "trustWays", unfollowed := true, recurses := true, named := ["nameplan/record.rules"], plainKeys := false, apart := false, laid := [("nameplan/record.rules", laid_nameplan_record_rules)], narrowed := true }
def TrustWaysUptoSaid : Prop := trustWaysUptoRow.holds Tryd.pinned (OpenSpec.upto trustWaysSpec)

end Rows
end Go.Proofs.YthjegjhlmkmlmaaDoor
