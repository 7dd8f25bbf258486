/-
  DERIVED. GIVEN WITH THE SEED: THE PROGRAM's TIES (one call each: nine closed facts by the kernel) AND EACH ROW's TIE, after the 31st guide's Derived/Test/Toyas{Tie, Card}.lean. No idea stands in it: it is a product of the set-up. Laid BY PROGRAM, IN A SANDBOX (cutbox-door.mjs). By AI agents, Wed Nov 11 2026. No macro, syntax, notation, axiom, sorry.
-/
import Derived.Test.YtpidjmgapiekaaaGreatDoorRows
import Derived.LaidByTextLater
import Derived.SevenTiedAt
import Derived.LaidSub
import Derived.LaidOnce
namespace Go.Proofs.YtpidjmgapiekaaaGreatDoor
open Go
set_option maxRecDepth 100000
theorem seatTie1 : Tryz.prog.laidByTextLater [("pasodoble/api.ErrArg", Rows.laid_pasodoble_api_ErrArg), ("pasodoble/api.ErrNil", Rows.laid_pasodoble_api_ErrNil), ("pasodoble/api.ErrForm", Rows.laid_pasodoble_api_ErrForm), ("pasodoble/api.ErrLong", Rows.laid_pasodoble_api_ErrLong), ("pasodoble/api.ErrSum", Rows.laid_pasodoble_api_ErrSum), ("pasodoble/api.ErrFull", Rows.laid_pasodoble_api_ErrFull), ("pasodoble/api.ErrNone", Rows.laid_pasodoble_api_ErrNone), ("pasodoble/api.ErrState", Rows.laid_pasodoble_api_ErrState), ("pasodoble/api.ErrTwice", Rows.laid_pasodoble_api_ErrTwice), ("pasodoble/api.ErrName", Rows.laid_pasodoble_api_ErrName), ("pasodoble/api.ErrCycle", Rows.laid_pasodoble_api_ErrCycle), ("pasodoble/api.ErrStack", Rows.laid_pasodoble_api_ErrStack), ("pasodoble/api.ErrJump", Rows.laid_pasodoble_api_ErrJump), ("pasodoble/api.ErrOp", Rows.laid_pasodoble_api_ErrOp), ("pasodoble/api.ErrFuel", Rows.laid_pasodoble_api_ErrFuel), ("pasodoble/api.ErrRange", Rows.laid_pasodoble_api_ErrRange), ("pasodoble/api.ErrDead", Rows.laid_pasodoble_api_ErrDead), ("pasodoble/api.ErrWord", Rows.laid_pasodoble_api_ErrWord)] [.sentinel, .sentinel, .sentinel, .sentinel, .sentinel, .sentinel, .sentinel, .sentinel, .sentinel, .sentinel, .sentinel, .sentinel, .sentinel, .sentinel, .sentinel, .sentinel, .sentinel, .sentinel] true :=
  Program.laidByTextLater_by_one 351 8 2 (by kernel_rfl) (by kernel_rfl) (by kernel_rfl) (by kernel_rfl) (by kernel_rfl) (by kernel_rfl) (fun _ _ => by kernel_rfl)
theorem noOwnUnsafe : Tryz.pinned.checked.prog.headLifts.contains "ownunsafe" = false := by kernel_rfl
theorem tie : Tryz.prog.laidByTextLater [("pasodoble/api.ErrArg", Rows.laid_pasodoble_api_ErrArg), ("pasodoble/api.ErrNil", Rows.laid_pasodoble_api_ErrNil), ("pasodoble/api.ErrForm", Rows.laid_pasodoble_api_ErrForm), ("pasodoble/api.ErrLong", Rows.laid_pasodoble_api_ErrLong), ("pasodoble/api.ErrSum", Rows.laid_pasodoble_api_ErrSum), ("pasodoble/api.ErrFull", Rows.laid_pasodoble_api_ErrFull), ("pasodoble/api.ErrState", Rows.laid_pasodoble_api_ErrState), ("pasodoble/api.ErrTwice", Rows.laid_pasodoble_api_ErrTwice)] [.sentinel, .sentinel, .sentinel, .sentinel, .sentinel, .sentinel, .sentinel, .sentinel] true :=
  Program.laidByTextLater.sub seatTie1 ["pasodoble/api.ErrArg", "pasodoble/api.ErrNil", "pasodoble/api.ErrForm", "pasodoble/api.ErrLong", "pasodoble/api.ErrSum", "pasodoble/api.ErrFull", "pasodoble/api.ErrState", "pasodoble/api.ErrTwice"] (by kernel_rfl) (by kernel_rfl)
theorem partnerWindow_row_tie : Rows.partnerWindowRow.laidByTextAt .later Tryz.pinned [.sentinel, .sentinel, .sentinel, .sentinel, .sentinel, .sentinel, .sentinel, .sentinel] true :=
  OpenClaim.laidByTextAt_later rfl rfl tie noOwnUnsafe
theorem partnerMeets_row_tie : Rows.partnerMeetsRow.laidByTextAt .later Tryz.pinned [.sentinel, .sentinel, .sentinel, .sentinel, .sentinel, .sentinel, .sentinel, .sentinel] true :=
  OpenClaim.laidByTextAt_later rfl rfl tie noOwnUnsafe
theorem partnerFinds_row_tie : Rows.partnerFindsRow.laidByTextAt .later Tryz.pinned [.sentinel, .sentinel, .sentinel, .sentinel, .sentinel, .sentinel, .sentinel, .sentinel] true :=
  OpenClaim.laidByTextAt_later rfl rfl tie noOwnUnsafe
theorem partnerSums_row_tie : Rows.partnerSumsRow.laidByTextAt .later Tryz.pinned [.sentinel, .sentinel, .sentinel, .sentinel, .sentinel, .sentinel, .sentinel, .sentinel] true :=
  OpenClaim.laidByTextAt_later rfl rfl tie noOwnUnsafe
theorem partnerDrops_row_tie : Rows.partnerDropsRow.laidByTextAt .later Tryz.pinned [.sentinel, .sentinel, .sentinel, .sentinel, .sentinel, .sentinel, .sentinel, .sentinel] true :=
  OpenClaim.laidByTextAt_later rfl rfl tie noOwnUnsafe
theorem tie2 : Tryz.prog.laidByTextLater [("pasodoble/api.ErrArg", Rows.laid_pasodoble_api_ErrArg), ("pasodoble/api.ErrNil", Rows.laid_pasodoble_api_ErrNil), ("pasodoble/api.ErrForm", Rows.laid_pasodoble_api_ErrForm), ("pasodoble/api.ErrLong", Rows.laid_pasodoble_api_ErrLong), ("pasodoble/api.ErrSum", Rows.laid_pasodoble_api_ErrSum), ("pasodoble/api.ErrFull", Rows.laid_pasodoble_api_ErrFull), ("pasodoble/api.ErrNone", Rows.laid_pasodoble_api_ErrNone), ("pasodoble/api.ErrState", Rows.laid_pasodoble_api_ErrState), ("pasodoble/api.ErrTwice", Rows.laid_pasodoble_api_ErrTwice), ("pasodoble/api.ErrName", Rows.laid_pasodoble_api_ErrName), ("pasodoble/api.ErrCycle", Rows.laid_pasodoble_api_ErrCycle), ("pasodoble/api.ErrStack", Rows.laid_pasodoble_api_ErrStack), ("pasodoble/api.ErrJump", Rows.laid_pasodoble_api_ErrJump), ("pasodoble/api.ErrOp", Rows.laid_pasodoble_api_ErrOp), ("pasodoble/api.ErrFuel", Rows.laid_pasodoble_api_ErrFuel), ("pasodoble/api.ErrRange", Rows.laid_pasodoble_api_ErrRange), ("pasodoble/api.ErrDead", Rows.laid_pasodoble_api_ErrDead), ("pasodoble/api.ErrWord", Rows.laid_pasodoble_api_ErrWord)] [.sentinel, .sentinel, .sentinel, .sentinel, .sentinel, .sentinel, .sentinel, .sentinel, .sentinel, .sentinel, .sentinel, .sentinel, .sentinel, .sentinel, .sentinel, .sentinel, .sentinel, .sentinel] true :=
  Program.laidByTextLater.sub seatTie1 ["pasodoble/api.ErrArg", "pasodoble/api.ErrNil", "pasodoble/api.ErrForm", "pasodoble/api.ErrLong", "pasodoble/api.ErrSum", "pasodoble/api.ErrFull", "pasodoble/api.ErrNone", "pasodoble/api.ErrState", "pasodoble/api.ErrTwice", "pasodoble/api.ErrName", "pasodoble/api.ErrCycle", "pasodoble/api.ErrStack", "pasodoble/api.ErrJump", "pasodoble/api.ErrOp", "pasodoble/api.ErrFuel", "pasodoble/api.ErrRange", "pasodoble/api.ErrDead", "pasodoble/api.ErrWord"] (by kernel_rfl) (by kernel_rfl)
theorem partnerExact_row_tie : Rows.partnerExactRow.laidByTextAt .later Tryz.pinned [.sentinel, .sentinel, .sentinel, .sentinel, .sentinel, .sentinel, .sentinel, .sentinel, .sentinel, .sentinel, .sentinel, .sentinel, .sentinel, .sentinel, .sentinel, .sentinel, .sentinel, .sentinel] true :=
  OpenClaim.laidByTextAt_later rfl rfl tie2 noOwnUnsafe
theorem partnerWindowUpto_row_tie : Rows.partnerWindowUptoRow.laidByTextAt .later Tryz.pinned [.sentinel, .sentinel, .sentinel, .sentinel, .sentinel, .sentinel, .sentinel, .sentinel] true :=
  OpenClaim.laidByTextAt_later rfl rfl tie noOwnUnsafe
theorem partnerMeetsUpto_row_tie : Rows.partnerMeetsUptoRow.laidByTextAt .later Tryz.pinned [.sentinel, .sentinel, .sentinel, .sentinel, .sentinel, .sentinel, .sentinel, .sentinel] true :=
  OpenClaim.laidByTextAt_later rfl rfl tie noOwnUnsafe
theorem partnerFindsUpto_row_tie : Rows.partnerFindsUptoRow.laidByTextAt .later Tryz.pinned [.sentinel, .sentinel, .sentinel, .sentinel, .sentinel, .sentinel, .sentinel, .sentinel] true :=
  OpenClaim.laidByTextAt_later rfl rfl tie noOwnUnsafe
theorem partnerSumsUpto_row_tie : Rows.partnerSumsUptoRow.laidByTextAt .later Tryz.pinned [.sentinel, .sentinel, .sentinel, .sentinel, .sentinel, .sentinel, .sentinel, .sentinel] true :=
  OpenClaim.laidByTextAt_later rfl rfl tie noOwnUnsafe
theorem partnerDropsUpto_row_tie : Rows.partnerDropsUptoRow.laidByTextAt .later Tryz.pinned [.sentinel, .sentinel, .sentinel, .sentinel, .sentinel, .sentinel, .sentinel, .sentinel] true :=
  OpenClaim.laidByTextAt_later rfl rfl tie noOwnUnsafe
theorem partnerExactUpto_row_tie : Rows.partnerExactUptoRow.laidByTextAt .later Tryz.pinned [.sentinel, .sentinel, .sentinel, .sentinel, .sentinel, .sentinel, .sentinel, .sentinel, .sentinel, .sentinel, .sentinel, .sentinel, .sentinel, .sentinel, .sentinel, .sentinel, .sentinel, .sentinel] true :=
  OpenClaim.laidByTextAt_later rfl rfl tie2 noOwnUnsafe
end Go.Proofs.YtpidjmgapiekaaaGreatDoor
