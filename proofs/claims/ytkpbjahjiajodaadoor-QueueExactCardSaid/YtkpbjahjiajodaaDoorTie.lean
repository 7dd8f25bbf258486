/-
  DERIVED. GIVEN WITH THE SEED: THE PROGRAM's TIES (one call each: nine closed facts by the kernel) AND EACH ROW's TIE, after the 31st guide's Derived/Test/Toyas{Tie, Card}.lean. No idea stands in it: it is a product of the set-up. Laid BY PROGRAM, IN A SANDBOX (cutbox-door.mjs). By AI agents, Wed Nov 11 2026. No macro, syntax, notation, axiom, sorry.
-/
import Derived.Test.YtkpbjahjiajodaaDoorRows
import Derived.LaidByTextLater
import Derived.SevenTiedAt
import Derived.LaidSub
import Derived.LaidOnce
namespace Go.Proofs.YtkpbjahjiajodaaDoor
open Go
set_option maxRecDepth 100000
theorem seatTie1 : Tryd.prog.laidByTextLater [("pasodoble/api.ErrArg", Rows.laid_pasodoble_api_ErrArg), ("pasodoble/api.ErrNil", Rows.laid_pasodoble_api_ErrNil), ("pasodoble/api.ErrForm", Rows.laid_pasodoble_api_ErrForm), ("pasodoble/api.ErrLong", Rows.laid_pasodoble_api_ErrLong), ("pasodoble/api.ErrSum", Rows.laid_pasodoble_api_ErrSum), ("pasodoble/api.ErrFull", Rows.laid_pasodoble_api_ErrFull), ("pasodoble/api.ErrNone", Rows.laid_pasodoble_api_ErrNone), ("pasodoble/api.ErrState", Rows.laid_pasodoble_api_ErrState), ("pasodoble/api.ErrTwice", Rows.laid_pasodoble_api_ErrTwice), ("pasodoble/api.ErrName", Rows.laid_pasodoble_api_ErrName), ("pasodoble/api.ErrCycle", Rows.laid_pasodoble_api_ErrCycle), ("pasodoble/api.ErrStack", Rows.laid_pasodoble_api_ErrStack), ("pasodoble/api.ErrJump", Rows.laid_pasodoble_api_ErrJump), ("pasodoble/api.ErrOp", Rows.laid_pasodoble_api_ErrOp), ("pasodoble/api.ErrFuel", Rows.laid_pasodoble_api_ErrFuel), ("pasodoble/api.ErrRange", Rows.laid_pasodoble_api_ErrRange), ("pasodoble/api.ErrDead", Rows.laid_pasodoble_api_ErrDead), ("pasodoble/api.ErrWord", Rows.laid_pasodoble_api_ErrWord)] [.sentinel, .sentinel, .sentinel, .sentinel, .sentinel, .sentinel, .sentinel, .sentinel, .sentinel, .sentinel, .sentinel, .sentinel, .sentinel, .sentinel, .sentinel, .sentinel, .sentinel, .sentinel] true :=
  Program.laidByTextLater_by_one 351 8 2 (by kernel_rfl) (by kernel_rfl) (by kernel_rfl) (by kernel_rfl) (by kernel_rfl) (by kernel_rfl) (fun _ _ => by kernel_rfl)
theorem noOwnUnsafe : Tryd.pinned.checked.prog.headLifts.contains "ownunsafe" = false := by kernel_rfl
theorem tie : Tryd.prog.laidByTextLater [("pasodoble/api.ErrArg", Rows.laid_pasodoble_api_ErrArg), ("pasodoble/api.ErrNil", Rows.laid_pasodoble_api_ErrNil), ("pasodoble/api.ErrFull", Rows.laid_pasodoble_api_ErrFull), ("pasodoble/api.ErrState", Rows.laid_pasodoble_api_ErrState), ("pasodoble/api.ErrTwice", Rows.laid_pasodoble_api_ErrTwice)] [.sentinel, .sentinel, .sentinel, .sentinel, .sentinel] true :=
  Program.laidByTextLater.sub seatTie1 ["pasodoble/api.ErrArg", "pasodoble/api.ErrNil", "pasodoble/api.ErrFull", "pasodoble/api.ErrState", "pasodoble/api.ErrTwice"] (by kernel_rfl) (by kernel_rfl)
theorem queueGets_row_tie : Rows.queueGetsRow.laidByTextAt .later Tryd.pinned [.sentinel, .sentinel, .sentinel, .sentinel, .sentinel] true :=
  OpenClaim.laidByTextAt_later rfl rfl tie noOwnUnsafe
theorem queueTells_row_tie : Rows.queueTellsRow.laidByTextAt .later Tryd.pinned [.sentinel, .sentinel, .sentinel, .sentinel, .sentinel] true :=
  OpenClaim.laidByTextAt_later rfl rfl tie noOwnUnsafe
theorem queueForgets_row_tie : Rows.queueForgetsRow.laidByTextAt .later Tryd.pinned [.sentinel, .sentinel, .sentinel, .sentinel, .sentinel] true :=
  OpenClaim.laidByTextAt_later rfl rfl tie noOwnUnsafe
theorem queueCloses_row_tie : Rows.queueClosesRow.laidByTextAt .later Tryd.pinned [.sentinel, .sentinel, .sentinel, .sentinel, .sentinel] true :=
  OpenClaim.laidByTextAt_later rfl rfl tie noOwnUnsafe
theorem tie2 : Tryd.prog.laidByTextLater [("pasodoble/api.ErrArg", Rows.laid_pasodoble_api_ErrArg), ("pasodoble/api.ErrNil", Rows.laid_pasodoble_api_ErrNil), ("pasodoble/api.ErrLong", Rows.laid_pasodoble_api_ErrLong), ("pasodoble/api.ErrFull", Rows.laid_pasodoble_api_ErrFull), ("pasodoble/api.ErrNone", Rows.laid_pasodoble_api_ErrNone)] [.sentinel, .sentinel, .sentinel, .sentinel, .sentinel] true :=
  Program.laidByTextLater.sub seatTie1 ["pasodoble/api.ErrArg", "pasodoble/api.ErrNil", "pasodoble/api.ErrLong", "pasodoble/api.ErrFull", "pasodoble/api.ErrNone"] (by kernel_rfl) (by kernel_rfl)
theorem lineKeeps_row_tie : Rows.lineKeepsRow.laidByTextAt .later Tryd.pinned [.sentinel, .sentinel, .sentinel, .sentinel, .sentinel] true :=
  OpenClaim.laidByTextAt_later rfl rfl tie2 noOwnUnsafe
theorem lineCounts_row_tie : Rows.lineCountsRow.laidByTextAt .later Tryd.pinned [.sentinel, .sentinel, .sentinel, .sentinel, .sentinel] true :=
  OpenClaim.laidByTextAt_later rfl rfl tie2 noOwnUnsafe
theorem lineSpoils_row_tie : Rows.lineSpoilsRow.laidByTextAt .later Tryd.pinned [.sentinel, .sentinel, .sentinel, .sentinel, .sentinel] true :=
  OpenClaim.laidByTextAt_later rfl rfl tie2 noOwnUnsafe
theorem tie3 : Tryd.prog.laidByTextLater [("pasodoble/api.ErrArg", Rows.laid_pasodoble_api_ErrArg), ("pasodoble/api.ErrNil", Rows.laid_pasodoble_api_ErrNil), ("pasodoble/api.ErrForm", Rows.laid_pasodoble_api_ErrForm), ("pasodoble/api.ErrLong", Rows.laid_pasodoble_api_ErrLong), ("pasodoble/api.ErrSum", Rows.laid_pasodoble_api_ErrSum), ("pasodoble/api.ErrFull", Rows.laid_pasodoble_api_ErrFull), ("pasodoble/api.ErrNone", Rows.laid_pasodoble_api_ErrNone), ("pasodoble/api.ErrState", Rows.laid_pasodoble_api_ErrState), ("pasodoble/api.ErrTwice", Rows.laid_pasodoble_api_ErrTwice), ("pasodoble/api.ErrName", Rows.laid_pasodoble_api_ErrName), ("pasodoble/api.ErrCycle", Rows.laid_pasodoble_api_ErrCycle), ("pasodoble/api.ErrStack", Rows.laid_pasodoble_api_ErrStack), ("pasodoble/api.ErrJump", Rows.laid_pasodoble_api_ErrJump), ("pasodoble/api.ErrOp", Rows.laid_pasodoble_api_ErrOp), ("pasodoble/api.ErrFuel", Rows.laid_pasodoble_api_ErrFuel), ("pasodoble/api.ErrRange", Rows.laid_pasodoble_api_ErrRange), ("pasodoble/api.ErrDead", Rows.laid_pasodoble_api_ErrDead), ("pasodoble/api.ErrWord", Rows.laid_pasodoble_api_ErrWord)] [.sentinel, .sentinel, .sentinel, .sentinel, .sentinel, .sentinel, .sentinel, .sentinel, .sentinel, .sentinel, .sentinel, .sentinel, .sentinel, .sentinel, .sentinel, .sentinel, .sentinel, .sentinel] true :=
  Program.laidByTextLater.sub seatTie1 ["pasodoble/api.ErrArg", "pasodoble/api.ErrNil", "pasodoble/api.ErrForm", "pasodoble/api.ErrLong", "pasodoble/api.ErrSum", "pasodoble/api.ErrFull", "pasodoble/api.ErrNone", "pasodoble/api.ErrState", "pasodoble/api.ErrTwice", "pasodoble/api.ErrName", "pasodoble/api.ErrCycle", "pasodoble/api.ErrStack", "pasodoble/api.ErrJump", "pasodoble/api.ErrOp", "pasodoble/api.ErrFuel", "pasodoble/api.ErrRange", "pasodoble/api.ErrDead", "pasodoble/api.ErrWord"] (by kernel_rfl) (by kernel_rfl)
theorem lineExact_row_tie : Rows.lineExactRow.laidByTextAt .later Tryd.pinned [.sentinel, .sentinel, .sentinel, .sentinel, .sentinel, .sentinel, .sentinel, .sentinel, .sentinel, .sentinel, .sentinel, .sentinel, .sentinel, .sentinel, .sentinel, .sentinel, .sentinel, .sentinel] true :=
  OpenClaim.laidByTextAt_later rfl rfl tie3 noOwnUnsafe
theorem queueExact_row_tie : Rows.queueExactRow.laidByTextAt .later Tryd.pinned [.sentinel, .sentinel, .sentinel, .sentinel, .sentinel, .sentinel, .sentinel, .sentinel, .sentinel, .sentinel, .sentinel, .sentinel, .sentinel, .sentinel, .sentinel, .sentinel, .sentinel, .sentinel] true :=
  OpenClaim.laidByTextAt_later rfl rfl tie3 noOwnUnsafe
theorem queueGetsUpto_row_tie : Rows.queueGetsUptoRow.laidByTextAt .later Tryd.pinned [.sentinel, .sentinel, .sentinel, .sentinel, .sentinel] true :=
  OpenClaim.laidByTextAt_later rfl rfl tie noOwnUnsafe
theorem queueTellsUpto_row_tie : Rows.queueTellsUptoRow.laidByTextAt .later Tryd.pinned [.sentinel, .sentinel, .sentinel, .sentinel, .sentinel] true :=
  OpenClaim.laidByTextAt_later rfl rfl tie noOwnUnsafe
theorem queueForgetsUpto_row_tie : Rows.queueForgetsUptoRow.laidByTextAt .later Tryd.pinned [.sentinel, .sentinel, .sentinel, .sentinel, .sentinel] true :=
  OpenClaim.laidByTextAt_later rfl rfl tie noOwnUnsafe
theorem lineKeepsUpto_row_tie : Rows.lineKeepsUptoRow.laidByTextAt .later Tryd.pinned [.sentinel, .sentinel, .sentinel, .sentinel, .sentinel] true :=
  OpenClaim.laidByTextAt_later rfl rfl tie2 noOwnUnsafe
theorem lineCountsUpto_row_tie : Rows.lineCountsUptoRow.laidByTextAt .later Tryd.pinned [.sentinel, .sentinel, .sentinel, .sentinel, .sentinel] true :=
  OpenClaim.laidByTextAt_later rfl rfl tie2 noOwnUnsafe
theorem lineSpoilsUpto_row_tie : Rows.lineSpoilsUptoRow.laidByTextAt .later Tryd.pinned [.sentinel, .sentinel, .sentinel, .sentinel, .sentinel] true :=
  OpenClaim.laidByTextAt_later rfl rfl tie2 noOwnUnsafe
theorem queueClosesUpto_row_tie : Rows.queueClosesUptoRow.laidByTextAt .later Tryd.pinned [.sentinel, .sentinel, .sentinel, .sentinel, .sentinel] true :=
  OpenClaim.laidByTextAt_later rfl rfl tie noOwnUnsafe
theorem lineExactUpto_row_tie : Rows.lineExactUptoRow.laidByTextAt .later Tryd.pinned [.sentinel, .sentinel, .sentinel, .sentinel, .sentinel, .sentinel, .sentinel, .sentinel, .sentinel, .sentinel, .sentinel, .sentinel, .sentinel, .sentinel, .sentinel, .sentinel, .sentinel, .sentinel] true :=
  OpenClaim.laidByTextAt_later rfl rfl tie3 noOwnUnsafe
theorem queueExactUpto_row_tie : Rows.queueExactUptoRow.laidByTextAt .later Tryd.pinned [.sentinel, .sentinel, .sentinel, .sentinel, .sentinel, .sentinel, .sentinel, .sentinel, .sentinel, .sentinel, .sentinel, .sentinel, .sentinel, .sentinel, .sentinel, .sentinel, .sentinel, .sentinel] true :=
  OpenClaim.laidByTextAt_later rfl rfl tie3 noOwnUnsafe
end Go.Proofs.YtkpbjahjiajodaaDoor
