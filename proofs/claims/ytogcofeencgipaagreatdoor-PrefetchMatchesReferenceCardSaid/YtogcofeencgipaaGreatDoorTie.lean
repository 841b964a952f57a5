/-
  DERIVED. GIVEN WITH THE SEED: THE PROGRAM's TIES (one call each: nine closed facts by the kernel) AND EACH ROW's TIE, after the 31st guide's Derived/Test/Toyas{Tie, Card}.lean. No idea stands in it: it is a product of the set-up. Laid BY PROGRAM, IN A SANDBOX (cutbox-door.mjs). By AI agents, Wed Nov 11 2026. No macro, syntax, notation, axiom, sorry.
-/
import Derived.Test.YtogcofeencgipaaGreatDoorRows
import Derived.LaidByTextLater
import Derived.SevenTiedAt
import Derived.LaidSub
import Derived.LaidOnce
namespace Go.Proofs.YtogcofeencgipaaGreatDoor
open Go
set_option maxRecDepth 100000
theorem seatTie1 : Tryz.prog.laidByTextLater [("bytes.ErrTooLarge", Rows.laid_bytes_ErrTooLarge), ("nameplan/record.rules", Rows.laid_nameplan_record_rules)] [.sentinel, .data] true :=
  Program.laidByTextLater_by_one 42 8 73 (by kernel_rfl) (by kernel_rfl) (by kernel_rfl) (by kernel_rfl) (by kernel_rfl) (by kernel_rfl) (fun _ _ => by kernel_rfl)
theorem noOwnUnsafe : Tryz.pinned.checked.prog.headLifts.contains "ownunsafe" = false := by kernel_rfl
theorem tie : Tryz.prog.laidByTextLater [("bytes.ErrTooLarge", Rows.laid_bytes_ErrTooLarge), ("nameplan/record.rules", Rows.laid_nameplan_record_rules)] [.sentinel, .data] true :=
  Program.laidByTextLater.sub seatTie1 ["bytes.ErrTooLarge", "nameplan/record.rules"] (by kernel_rfl) (by kernel_rfl)
theorem packetMatchesReference_row_tie : Rows.packetMatchesReferenceRow.laidByTextAt .later Tryz.pinned [.sentinel, .data] true :=
  OpenClaim.laidByTextAt_later rfl rfl tie noOwnUnsafe
theorem packetBytes_row_tie : Rows.packetBytesRow.laidByTextAt .later Tryz.pinned [.sentinel, .data] true :=
  OpenClaim.laidByTextAt_later rfl rfl tie noOwnUnsafe
theorem packetMatches_row_tie : Rows.packetMatchesRow.laidByTextAt .later Tryz.pinned [.sentinel, .data] true :=
  OpenClaim.laidByTextAt_later rfl rfl tie noOwnUnsafe
theorem packetForged_row_tie : Rows.packetForgedRow.laidByTextAt .later Tryz.pinned [.sentinel, .data] true :=
  OpenClaim.laidByTextAt_later rfl rfl tie noOwnUnsafe
theorem tie2 : Tryz.prog.laidByTextLater [("nameplan/record.rules", Rows.laid_nameplan_record_rules)] [.data] true :=
  Program.laidByTextLater.sub seatTie1 ["nameplan/record.rules"] (by kernel_rfl) (by kernel_rfl)
theorem prefetchMatchesReference_row_tie : Rows.prefetchMatchesReferenceRow.laidByTextAt .later Tryz.pinned [.data] true :=
  OpenClaim.laidByTextAt_later rfl rfl tie2 noOwnUnsafe
theorem prefetchDue_row_tie : Rows.prefetchDueRow.laidByTextAt .later Tryz.pinned [.data] true :=
  OpenClaim.laidByTextAt_later rfl rfl tie2 noOwnUnsafe
theorem prefetchCounts_row_tie : Rows.prefetchCountsRow.laidByTextAt .later Tryz.pinned [.data] true :=
  OpenClaim.laidByTextAt_later rfl rfl tie2 noOwnUnsafe
theorem prefetchLearns_row_tie : Rows.prefetchLearnsRow.laidByTextAt .later Tryz.pinned [.data] true :=
  OpenClaim.laidByTextAt_later rfl rfl tie2 noOwnUnsafe
theorem prefetchDenies_row_tie : Rows.prefetchDeniesRow.laidByTextAt .later Tryz.pinned [.data] true :=
  OpenClaim.laidByTextAt_later rfl rfl tie2 noOwnUnsafe
theorem prefetchOthers_row_tie : Rows.prefetchOthersRow.laidByTextAt .later Tryz.pinned [.data] true :=
  OpenClaim.laidByTextAt_later rfl rfl tie2 noOwnUnsafe
theorem packetMatchesReferenceUpto_row_tie : Rows.packetMatchesReferenceUptoRow.laidByTextAt .later Tryz.pinned [.sentinel, .data] true :=
  OpenClaim.laidByTextAt_later rfl rfl tie noOwnUnsafe
theorem packetBytesUpto_row_tie : Rows.packetBytesUptoRow.laidByTextAt .later Tryz.pinned [.sentinel, .data] true :=
  OpenClaim.laidByTextAt_later rfl rfl tie noOwnUnsafe
theorem packetMatchesUpto_row_tie : Rows.packetMatchesUptoRow.laidByTextAt .later Tryz.pinned [.sentinel, .data] true :=
  OpenClaim.laidByTextAt_later rfl rfl tie noOwnUnsafe
theorem packetForgedUpto_row_tie : Rows.packetForgedUptoRow.laidByTextAt .later Tryz.pinned [.sentinel, .data] true :=
  OpenClaim.laidByTextAt_later rfl rfl tie noOwnUnsafe
theorem prefetchMatchesReferenceUpto_row_tie : Rows.prefetchMatchesReferenceUptoRow.laidByTextAt .later Tryz.pinned [.data] true :=
  OpenClaim.laidByTextAt_later rfl rfl tie2 noOwnUnsafe
theorem prefetchDueUpto_row_tie : Rows.prefetchDueUptoRow.laidByTextAt .later Tryz.pinned [.data] true :=
  OpenClaim.laidByTextAt_later rfl rfl tie2 noOwnUnsafe
theorem prefetchCountsUpto_row_tie : Rows.prefetchCountsUptoRow.laidByTextAt .later Tryz.pinned [.data] true :=
  OpenClaim.laidByTextAt_later rfl rfl tie2 noOwnUnsafe
theorem prefetchLearnsUpto_row_tie : Rows.prefetchLearnsUptoRow.laidByTextAt .later Tryz.pinned [.data] true :=
  OpenClaim.laidByTextAt_later rfl rfl tie2 noOwnUnsafe
theorem prefetchDeniesUpto_row_tie : Rows.prefetchDeniesUptoRow.laidByTextAt .later Tryz.pinned [.data] true :=
  OpenClaim.laidByTextAt_later rfl rfl tie2 noOwnUnsafe
theorem prefetchOthersUpto_row_tie : Rows.prefetchOthersUptoRow.laidByTextAt .later Tryz.pinned [.data] true :=
  OpenClaim.laidByTextAt_later rfl rfl tie2 noOwnUnsafe
end Go.Proofs.YtogcofeencgipaaGreatDoor
