/-
  NARROWER THAN 'FOR EVERY INPUT', by the rows' own cells (each row's printed sentence says how): NetMatchesReference: laid · NetDelivers: laid · NetLost: laid · NetOnce: laid · NetOrder: laid · NetForged: laid.
  DERIVED. THE GIVEN ROWS OF THIS SEAT. 6 by the template 'for every input the law returns true; each argument reads behind the call as it read before'; 0 by the template 'total and deterministic' (their statements: YteehdjpjhdmldaaDoorTotals.lean).
  GIVEN WITH THE SEED: the statements are not yours to turn. If you find one false, say at which input.
  Laid BY PROGRAM, IN A SANDBOX (cutbox-rows.mjs): the forced cells as the released guide's own fill.sh prints them over the translation ffe92c7ee20dd74c… (all of the seat's roots in one cut). By AI agents, Wed Nov 11 2026. No macro, syntax, notation, axiom, sorry.
-/
import Derived.Test.YteehdjpjhdmldaaDoorChecked
import GoSem.Claim
import GoSem.ClaimJoined
import GoSem.ClaimMapViews
import Derived.JoinedTies
import Derived.KernelRfl
namespace Go.Proofs.YteehdjpjhdmldaaDoor
/- THE CELL 'sum', in the pinned program and in every row, IS THE sha256 OF THE DUMP (.gsa) THAT YteehdjpjhdmldaaDoorProg.lean LOADS. Nothing in Lean hashes anything: it is a label: what it is worth is what the hold of that sum in a sandbox is worth. -/
noncomputable def Tryd.pinned : Pinned := { name := "yteehdjpjhdmldaadoor", sum := "ffe92c7ee20dd74c9d794a6eac6d36a38392c632a9e167a1f6012b36a96169c7", checked := Tryd.checked }
namespace Rows
def none {H : Type} : Left H := { results := [], args := [] }

/- WHAT THE LISTED PACKAGE-LEVEL VARIABLES READ AS WHEN THE CALL BEGINS. Each datum BY PROGRAM (the guide's laid-datum.mjs) off the statement by which the dump's own 'gosem.cut.vars' lays the variable. In a bare row this is a premise. The card (YteehdjpjhdmldaaDoorCards.lean) ties it to the program's text. -/
def laid_nameplan_record_rules {H : Type} : DataW H := .agg [.agg [.lit (.int .i64 0), .lit (.int .i64 0), .lit (.int .i64 0), .lit (.int .i64 0), .lit (.int .i64 0), .lit (.bool false), .lit (.bool false), .lit (.bool false)], .agg [.lit (.int .i64 0), .lit (.int .i64 1), .lit (.int .i64 1000000), .lit (.int .i64 0), .lit (.int .i64 0), .lit (.bool false), .lit (.bool false), .lit (.bool true)], .agg [.lit (.int .i64 1), .lit (.int .i64 0), .lit (.int .i64 0), .lit (.int .i64 0), .lit (.int .i64 0), .lit (.bool false), .lit (.bool false), .lit (.bool false)], .agg [.lit (.int .i64 1), .lit (.int .i64 0), .lit (.int .i64 0), .lit (.int .i64 0), .lit (.int .i64 0), .lit (.bool false), .lit (.bool true), .lit (.bool false)], .agg [.lit (.int .i64 0), .lit (.int .i64 0), .lit (.int .i64 65535), .lit (.int .i64 0), .lit (.int .i64 100000), .lit (.bool false), .lit (.bool true), .lit (.bool false)], .agg [.lit (.int .i64 3), .lit (.int .i64 0), .lit (.int .i64 0), .lit (.int .i64 0), .lit (.int .i64 0), .lit (.bool false), .lit (.bool false), .lit (.bool true)], .agg [.lit (.int .i64 0), .lit (.int .i64 1), .lit (.int .i64 1000000), .lit (.int .i64 1), .lit (.int .i64 3), .lit (.bool false), .lit (.bool false), .lit (.bool false)], .agg [.lit (.int .i64 0), .lit (.int .i64 1), .lit (.int .i64 1000000), .lit (.int .i64 1), .lit (.int .i64 3), .lit (.bool false), .lit (.bool false), .lit (.bool false)], .agg [.lit (.int .i64 2), .lit (.int .i64 2), .lit (.int .i64 510), .lit (.int .i64 0), .lit (.int .i64 0), .lit (.bool true), .lit (.bool false), .lit (.bool true)]]

/-- 'nameplanlaw27.NetMatchesReference': WHATEVER THE INPUT: true; the input reads as it did. -/
def netMatchesReferenceSpec : ChangeSpec := { name := "netMatchesReference", fn := fun _ => fun
  | [d1, d2, d3, d4, d5] => { results := [.lit (.bool true)], args := [d1, d2, d3, d4, d5] }
  | _ => none }
def netMatchesReferenceRow : OpenClaim := { program := "yteehdjpjhdmldaadoor", sum := "ffe92c7ee20dd74c9d794a6eac6d36a38392c632a9e167a1f6012b36a96169c7", func := "nameplan/nameplanlaw27.NetMatchesReference", spec := "netMatchesReference", unfollowed := true, recurses := true, named := ["nameplan/record.rules"], apart := false, laid := [("nameplan/record.rules", laid_nameplan_record_rules)] }
def NetMatchesReferenceSaid : Prop := netMatchesReferenceRow.holds Tryd.pinned (OpenSpec.ofChange netMatchesReferenceSpec)

/-- ITS FALSE NEIGHBOUR: 'it returns false'. Refute it at one input. -/
def netMatchesReferenceWrong : ChangeSpec := { name := "netMatchesReference", fn := fun _ => fun
  | [d1, d2, d3, d4, d5] => { results := [.lit (.bool false)], args := [d1, d2, d3, d4, d5] }
  | _ => none }
def NetMatchesReferenceWrongFalsely : Prop := netMatchesReferenceRow.holds Tryd.pinned (OpenSpec.ofChange netMatchesReferenceWrong)

/-- 'nameplanlaw27.NetDelivers': WHATEVER THE INPUT: true; the input reads as it did. -/
def netDeliversSpec : ChangeSpec := { name := "netDelivers", fn := fun _ => fun
  | [d1, d2, d3, d4] => { results := [.lit (.bool true)], args := [d1, d2, d3, d4] }
  | _ => none }
def netDeliversRow : OpenClaim := { program := "yteehdjpjhdmldaadoor", sum := "ffe92c7ee20dd74c9d794a6eac6d36a38392c632a9e167a1f6012b36a96169c7", func := "nameplan/nameplanlaw27.NetDelivers", spec := "netDelivers", unfollowed := true, recurses := true, named := ["nameplan/record.rules"], apart := false, laid := [("nameplan/record.rules", laid_nameplan_record_rules)] }
def NetDeliversSaid : Prop := netDeliversRow.holds Tryd.pinned (OpenSpec.ofChange netDeliversSpec)

/-- ITS FALSE NEIGHBOUR: 'it returns false'. Refute it at one input. -/
def netDeliversWrong : ChangeSpec := { name := "netDelivers", fn := fun _ => fun
  | [d1, d2, d3, d4] => { results := [.lit (.bool false)], args := [d1, d2, d3, d4] }
  | _ => none }
def NetDeliversWrongFalsely : Prop := netDeliversRow.holds Tryd.pinned (OpenSpec.ofChange netDeliversWrong)

/-- 'nameplanlaw27.NetLost': WHATEVER THE INPUT: true; the input reads as it did. -/
def netLostSpec : ChangeSpec := { name := "netLost", fn := fun _ => fun
  | [d1, d2, d3, d4] => { results := [.lit (.bool true)], args := [d1, d2, d3, d4] }
  | _ => none }
def netLostRow : OpenClaim := { program := "yteehdjpjhdmldaadoor", sum := "ffe92c7ee20dd74c9d794a6eac6d36a38392c632a9e167a1f6012b36a96169c7", func := "nameplan/nameplanlaw27.NetLost", spec := "netLost", unfollowed := true, recurses := true, named := ["nameplan/record.rules"], apart := false, laid := [("nameplan/record.rules", laid_nameplan_record_rules)] }
def NetLostSaid : Prop := netLostRow.holds Tryd.pinned (OpenSpec.ofChange netLostSpec)

/-- ITS FALSE NEIGHBOUR: 'it returns false'. Refute it at one input. -/
def netLostWrong : ChangeSpec := { name := "netLost", fn := fun _ => fun
  | [d1, d2, d3, d4] => { results := [.lit (.bool false)], args := [d1, d2, d3, d4] }
  | _ => none }
def NetLostWrongFalsely : Prop := netLostRow.holds Tryd.pinned (OpenSpec.ofChange netLostWrong)

/-- 'nameplanlaw27.NetOnce': WHATEVER THE INPUT: true; the input reads as it did. -/
def netOnceSpec : ChangeSpec := { name := "netOnce", fn := fun _ => fun
  | [d1, d2, d3, d4, d5] => { results := [.lit (.bool true)], args := [d1, d2, d3, d4, d5] }
  | _ => none }
def netOnceRow : OpenClaim := { program := "yteehdjpjhdmldaadoor", sum := "ffe92c7ee20dd74c9d794a6eac6d36a38392c632a9e167a1f6012b36a96169c7", func := "nameplan/nameplanlaw27.NetOnce", spec := "netOnce", unfollowed := true, recurses := true, named := ["nameplan/record.rules"], apart := false, laid := [("nameplan/record.rules", laid_nameplan_record_rules)] }
def NetOnceSaid : Prop := netOnceRow.holds Tryd.pinned (OpenSpec.ofChange netOnceSpec)

/-- ITS FALSE NEIGHBOUR: 'it returns false'. Refute it at one input. -/
def netOnceWrong : ChangeSpec := { name := "netOnce", fn := fun _ => fun
  | [d1, d2, d3, d4, d5] => { results := [.lit (.bool false)], args := [d1, d2, d3, d4, d5] }
  | _ => none }
def NetOnceWrongFalsely : Prop := netOnceRow.holds Tryd.pinned (OpenSpec.ofChange netOnceWrong)

/-- 'nameplanlaw27.NetOrder': WHATEVER THE INPUT: true; the input reads as it did. -/
def netOrderSpec : ChangeSpec := { name := "netOrder", fn := fun _ => fun
  | [d1, d2, d3, d4, d5, d6] => { results := [.lit (.bool true)], args := [d1, d2, d3, d4, d5, d6] }
  | _ => none }
def netOrderRow : OpenClaim := { program := "yteehdjpjhdmldaadoor", sum := "ffe92c7ee20dd74c9d794a6eac6d36a38392c632a9e167a1f6012b36a96169c7", func := "nameplan/nameplanlaw27.NetOrder", spec := "netOrder", unfollowed := true, recurses := true, named := ["nameplan/record.rules"], apart := false, laid := [("nameplan/record.rules", laid_nameplan_record_rules)] }
def NetOrderSaid : Prop := netOrderRow.holds Tryd.pinned (OpenSpec.ofChange netOrderSpec)

/-- ITS FALSE NEIGHBOUR: 'it returns false'. Refute it at one input. -/
def netOrderWrong : ChangeSpec := { name := "netOrder", fn := fun _ => fun
  | [d1, d2, d3, d4, d5, d6] => { results := [.lit (.bool false)], args := [d1, d2, d3, d4, d5, d6] }
  | _ => none }
def NetOrderWrongFalsely : Prop := netOrderRow.holds Tryd.pinned (OpenSpec.ofChange netOrderWrong)

/-- 'nameplanlaw27.NetForged': WHATEVER THE INPUT: true; the input reads as it did. -/
def netForgedSpec : ChangeSpec := { name := "netForged", fn := fun _ => fun
  | [d1, d2, d3, d4] => { results := [.lit (.bool true)], args := [d1, d2, d3, d4] }
  | _ => none }
def netForgedRow : OpenClaim := { program := "yteehdjpjhdmldaadoor", sum := "ffe92c7ee20dd74c9d794a6eac6d36a38392c632a9e167a1f6012b36a96169c7", func := "nameplan/nameplanlaw27.NetForged", spec := "netForged", unfollowed := true, recurses := true, named := ["nameplan/record.rules"], apart := false, laid := [("nameplan/record.rules", laid_nameplan_record_rules)] }
def NetForgedSaid : Prop := netForgedRow.holds Tryd.pinned (OpenSpec.ofChange netForgedSpec)

/-- ITS FALSE NEIGHBOUR: 'it returns false'. Refute it at one input. -/
def netForgedWrong : ChangeSpec := { name := "netForged", fn := fun _ => fun
  | [d1, d2, d3, d4] => { results := [.lit (.bool false)], args := [d1, d2, d3, d4] }
  | _ => none }
def NetForgedWrongFalsely : Prop := netForgedRow.holds Tryd.pinned (OpenSpec.ofChange netForgedWrong)

/- THE SECOND FORM. 'bulk': how many values and letters a reading holds, each counted each time it is reached (what is shared counts as often as it is met; a slice's spare places count too). A statement '..UptoSaid' is the law's where the arguments, and the package variables that the reading takes, are together of bulk at most 1048576: NARROWER than '..Said'. Prove '..Said' where nothing that the law and all that it calls make is longer than what came in: it says more and counts as full. Else prove '..UptoSaid'. A law counts once. -/
mutual
def uptoBulk {H : Type} : DataW H → Nat
  | .lit (.string bytes) => bytes.length + 1
  | .lit _ => 1
  | .nil => 1
  | .ptr d => uptoBulk d + 1
  | .slice elems spare => uptoBulkAll elems + uptoBulkAll spare + 1
  | .agg parts => uptoBulkAll parts + 1
  | .iface _ d => uptoBulk d + 1
  | .map entries => uptoBulkEntries entries + 1
  | .held _ => 1
def uptoBulkAll {H : Type} : List (DataW H) → Nat
  | [] => 0
  | d :: r => uptoBulk d + uptoBulkAll r
def uptoBulkEntries {H : Type} : List (Lit × DataW H) → Nat
  | [] => 0
  | x :: r => uptoBulkEntry x + uptoBulkEntries r
def uptoBulkEntry {H : Type} : Lit × DataW H → Nat
  | (.string bytes, d) => bytes.length + uptoBulk d + 1
  | (_, d) => uptoBulk d + 1
 end
def uptoSmall : (H : Type) → List (DataW H) → Bool := fun _ ds => decide (uptoBulkAll ds ≤ 1048576)
def OpenSpec.upto (s : _root_.Go.ChangeSpec) : _root_.Go.OpenSpec := { _root_.Go.OpenSpec.ofChange s with cond := some uptoSmall }

/-- 'nameplanlaw27.NetMatchesReference', WHERE WHAT IT READS IS OF BULK AT MOST 1048576: true; the input reads as it did. -/
def netMatchesReferenceUptoRow : OpenClaim := { program := "yteehdjpjhdmldaadoor", sum := "ffe92c7ee20dd74c9d794a6eac6d36a38392c632a9e167a1f6012b36a96169c7", func := "nameplan/nameplanlaw27.NetMatchesReference", spec := "netMatchesReference", unfollowed := true, recurses := true, named := ["nameplan/record.rules"], apart := false, laid := [("nameplan/record.rules", laid_nameplan_record_rules)], narrowed := true }
def NetMatchesReferenceUptoSaid : Prop := netMatchesReferenceUptoRow.holds Tryd.pinned (OpenSpec.upto netMatchesReferenceSpec)

/-- 'nameplanlaw27.NetDelivers', WHERE WHAT IT READS IS OF BULK AT MOST 1048576: true; the input reads as it did. -/
def netDeliversUptoRow : OpenClaim := { program := "yteehdjpjhdmldaadoor", sum := "ffe92c7ee20dd74c9d794a6eac6d36a38392c632a9e167a1f6012b36a96169c7", func := "nameplan/nameplanlaw27.NetDelivers", spec := "netDelivers", unfollowed := true, recurses := true, named := ["nameplan/record.rules"], apart := false, laid := [("nameplan/record.rules", laid_nameplan_record_rules)], narrowed := true }
def NetDeliversUptoSaid : Prop := netDeliversUptoRow.holds Tryd.pinned (OpenSpec.upto netDeliversSpec)

/-- 'nameplanlaw27.NetLost', WHERE WHAT IT READS IS OF BULK AT MOST 1048576: true; the input reads as it did. -/
def netLostUptoRow : OpenClaim := { program := "yteehdjpjhdmldaadoor", sum := "ffe92c7ee20dd74c9d794a6eac6d36a38392c632a9e167a1f6012b36a96169c7", func := "nameplan/nameplanlaw27.NetLost", spec := "netLost", unfollowed := true, recurses := true, named := ["nameplan/record.rules"], apart := false, laid := [("nameplan/record.rules", laid_nameplan_record_rules)], narrowed := true }
def NetLostUptoSaid : Prop := netLostUptoRow.holds Tryd.pinned (OpenSpec.upto netLostSpec)

/-- 'nameplanlaw27.NetOnce', WHERE WHAT IT READS IS OF BULK AT MOST 1048576: true; the input reads as it did. -/
def netOnceUptoRow : OpenClaim := { program := "yteehdjpjhdmldaadoor", sum := "ffe92c7ee20dd74c9d794a6eac6d36a38392c632a9e167a1f6012b36a96169c7", func := "nameplan/nameplanlaw27.NetOnce", spec := "netOnce", unfollowed := true, recurses := true, named := ["nameplan/record.rules"], apart := false, laid := [("nameplan/record.rules", laid_nameplan_record_rules)], narrowed := true }
def NetOnceUptoSaid : Prop := netOnceUptoRow.holds Tryd.pinned (OpenSpec.upto netOnceSpec)

/-- 'nameplanlaw27.NetOrder', WHERE WHAT IT READS IS OF BULK AT MOST 1048576: true; the input reads as it did. -/
def netOrderUptoRow : OpenClaim := { program := "yteehdjpjhdmldaadoor", sum := "ffe92c7ee20dd74c9d794a6eac6d36a38392c632a9e167a1f6012b36a96169c7", func := "nameplan/nameplanlaw27.NetOrder", spec := "netOrder", unfollowed := true, recurses := true, named := ["nameplan/record.rules"], apart := false, laid := [("nameplan/record.rules", laid_nameplan_record_rules)], narrowed := true }
def NetOrderUptoSaid : Prop := netOrderUptoRow.holds Tryd.pinned (OpenSpec.upto netOrderSpec)

/-- 'nameplanlaw27.NetForged', WHERE WHAT IT READS IS OF BULK AT MOST 1048576: true; the input reads as it did. -/
def netForgedUptoRow : OpenClaim := { program := "yteehdjpjhdmldaadoor", sum := "ffe92c7ee20dd74c9d794a6eac6d36a38392c632a9e167a1f6012b36a96169c7", func := "nameplan/nameplanlaw27.NetForged", spec := "netForged", unfollowed := true, recurses := true, named := ["nameplan/record.rules"], apart := false, laid := [("nameplan/record.rules", laid_nameplan_record_rules)], narrowed := true }
def NetForgedUptoSaid : Prop := netForgedUptoRow.holds Tryd.pinned (OpenSpec.upto netForgedSpec)

end Rows
end Go.Proofs.YteehdjpjhdmldaaDoor
