/-
  DERIVED. GIVEN WITH THE SEED: THE PROGRAM's TIES (one call each: nine closed facts by the kernel) AND EACH ROW's TIE, after the 31st guide's Derived/Test/Toyas{Tie, Card}.lean. No idea stands in it: it is a product of the set-up. Laid BY PROGRAM, IN A SANDBOX (cutbox-door.mjs). By AI agents, Wed Nov 11 2026. No macro, syntax, notation, axiom, sorry.
-/
import Derived.Test.YtgdbpicelnoacaaDoorRows
import Derived.LaidByTextLater
import Derived.SevenTiedAt
import Derived.LaidSub
import Derived.LaidOnce
namespace Go.Proofs.YtgdbpicelnoacaaDoor
open Go
set_option maxRecDepth 100000
theorem seatTie1 : Tryd.prog.laidByTextLater [("pasodoble/api.ErrArg", Rows.laid_pasodoble_api_ErrArg), ("pasodoble/api.ErrNil", Rows.laid_pasodoble_api_ErrNil), ("pasodoble/api.ErrForm", Rows.laid_pasodoble_api_ErrForm), ("pasodoble/api.ErrLong", Rows.laid_pasodoble_api_ErrLong), ("pasodoble/api.ErrSum", Rows.laid_pasodoble_api_ErrSum), ("pasodoble/api.ErrFull", Rows.laid_pasodoble_api_ErrFull), ("pasodoble/api.ErrNone", Rows.laid_pasodoble_api_ErrNone), ("pasodoble/api.ErrState", Rows.laid_pasodoble_api_ErrState), ("pasodoble/api.ErrTwice", Rows.laid_pasodoble_api_ErrTwice), ("pasodoble/api.ErrName", Rows.laid_pasodoble_api_ErrName), ("pasodoble/api.ErrCycle", Rows.laid_pasodoble_api_ErrCycle), ("pasodoble/api.ErrStack", Rows.laid_pasodoble_api_ErrStack), ("pasodoble/api.ErrJump", Rows.laid_pasodoble_api_ErrJump), ("pasodoble/api.ErrOp", Rows.laid_pasodoble_api_ErrOp), ("pasodoble/api.ErrFuel", Rows.laid_pasodoble_api_ErrFuel), ("pasodoble/api.ErrRange", Rows.laid_pasodoble_api_ErrRange), ("pasodoble/api.ErrDead", Rows.laid_pasodoble_api_ErrDead), ("pasodoble/api.ErrWord", Rows.laid_pasodoble_api_ErrWord), ("pasodoble/parcel.names", Rows.laid_pasodoble_parcel_names)] [.sentinel, .sentinel, .sentinel, .sentinel, .sentinel, .sentinel, .sentinel, .sentinel, .sentinel, .sentinel, .sentinel, .sentinel, .sentinel, .sentinel, .sentinel, .sentinel, .sentinel, .sentinel, .data] true :=
  Program.laidByTextLater_by_one 356 8 7 (by kernel_rfl) (by kernel_rfl) (by kernel_rfl) (by kernel_rfl) (by kernel_rfl) (by kernel_rfl) (fun _ _ => by kernel_rfl)
theorem noOwnUnsafe : Tryd.pinned.checked.prog.headLifts.contains "ownunsafe" = false := by kernel_rfl
theorem tie : Tryd.prog.laidByTextLater [("pasodoble/api.ErrArg", Rows.laid_pasodoble_api_ErrArg), ("pasodoble/api.ErrNil", Rows.laid_pasodoble_api_ErrNil), ("pasodoble/api.ErrForm", Rows.laid_pasodoble_api_ErrForm), ("pasodoble/api.ErrLong", Rows.laid_pasodoble_api_ErrLong), ("pasodoble/api.ErrSum", Rows.laid_pasodoble_api_ErrSum), ("pasodoble/api.ErrFull", Rows.laid_pasodoble_api_ErrFull), ("pasodoble/api.ErrNone", Rows.laid_pasodoble_api_ErrNone), ("pasodoble/api.ErrState", Rows.laid_pasodoble_api_ErrState), ("pasodoble/api.ErrTwice", Rows.laid_pasodoble_api_ErrTwice), ("pasodoble/api.ErrName", Rows.laid_pasodoble_api_ErrName), ("pasodoble/api.ErrCycle", Rows.laid_pasodoble_api_ErrCycle), ("pasodoble/api.ErrStack", Rows.laid_pasodoble_api_ErrStack), ("pasodoble/api.ErrJump", Rows.laid_pasodoble_api_ErrJump), ("pasodoble/api.ErrOp", Rows.laid_pasodoble_api_ErrOp), ("pasodoble/api.ErrFuel", Rows.laid_pasodoble_api_ErrFuel), ("pasodoble/api.ErrRange", Rows.laid_pasodoble_api_ErrRange), ("pasodoble/api.ErrDead", Rows.laid_pasodoble_api_ErrDead), ("pasodoble/api.ErrWord", Rows.laid_pasodoble_api_ErrWord)] [.sentinel, .sentinel, .sentinel, .sentinel, .sentinel, .sentinel, .sentinel, .sentinel, .sentinel, .sentinel, .sentinel, .sentinel, .sentinel, .sentinel, .sentinel, .sentinel, .sentinel, .sentinel] true :=
  Program.laidByTextLater.sub seatTie1 ["pasodoble/api.ErrArg", "pasodoble/api.ErrNil", "pasodoble/api.ErrForm", "pasodoble/api.ErrLong", "pasodoble/api.ErrSum", "pasodoble/api.ErrFull", "pasodoble/api.ErrNone", "pasodoble/api.ErrState", "pasodoble/api.ErrTwice", "pasodoble/api.ErrName", "pasodoble/api.ErrCycle", "pasodoble/api.ErrStack", "pasodoble/api.ErrJump", "pasodoble/api.ErrOp", "pasodoble/api.ErrFuel", "pasodoble/api.ErrRange", "pasodoble/api.ErrDead", "pasodoble/api.ErrWord"] (by kernel_rfl) (by kernel_rfl)
theorem strandWrites_row_tie : Rows.strandWritesRow.laidByTextAt .later Tryd.pinned [.sentinel, .sentinel, .sentinel, .sentinel, .sentinel, .sentinel, .sentinel, .sentinel, .sentinel, .sentinel, .sentinel, .sentinel, .sentinel, .sentinel, .sentinel, .sentinel, .sentinel, .sentinel] true :=
  OpenClaim.laidByTextAt_later rfl rfl tie noOwnUnsafe
theorem parcelReads_row_tie : Rows.parcelReadsRow.laidByTextAt .later Tryd.pinned [.sentinel, .sentinel, .sentinel, .sentinel, .sentinel, .sentinel, .sentinel, .sentinel, .sentinel, .sentinel, .sentinel, .sentinel, .sentinel, .sentinel, .sentinel, .sentinel, .sentinel, .sentinel] true :=
  OpenClaim.laidByTextAt_later rfl rfl tie noOwnUnsafe
theorem tie2 : Tryd.prog.laidByTextLater [("pasodoble/api.ErrArg", Rows.laid_pasodoble_api_ErrArg), ("pasodoble/api.ErrNil", Rows.laid_pasodoble_api_ErrNil), ("pasodoble/api.ErrForm", Rows.laid_pasodoble_api_ErrForm), ("pasodoble/api.ErrLong", Rows.laid_pasodoble_api_ErrLong)] [.sentinel, .sentinel, .sentinel, .sentinel] true :=
  Program.laidByTextLater.sub seatTie1 ["pasodoble/api.ErrArg", "pasodoble/api.ErrNil", "pasodoble/api.ErrForm", "pasodoble/api.ErrLong"] (by kernel_rfl) (by kernel_rfl)
theorem strandReads_row_tie : Rows.strandReadsRow.laidByTextAt .later Tryd.pinned [.sentinel, .sentinel, .sentinel, .sentinel] true :=
  OpenClaim.laidByTextAt_later rfl rfl tie2 noOwnUnsafe
theorem strandBack_row_tie : Rows.strandBackRow.laidByTextAt .later Tryd.pinned [.sentinel, .sentinel, .sentinel, .sentinel] true :=
  OpenClaim.laidByTextAt_later rfl rfl tie2 noOwnUnsafe
theorem strandForms_row_tie : Rows.strandFormsRow.laidByTextAt .later Tryd.pinned [.sentinel, .sentinel, .sentinel, .sentinel] true :=
  OpenClaim.laidByTextAt_later rfl rfl tie2 noOwnUnsafe
theorem strandCuts_row_tie : Rows.strandCutsRow.laidByTextAt .later Tryd.pinned [.sentinel, .sentinel, .sentinel, .sentinel] true :=
  OpenClaim.laidByTextAt_later rfl rfl tie2 noOwnUnsafe
theorem strandBounds_row_tie : Rows.strandBoundsRow.laidByTextAt .later Tryd.pinned [.sentinel, .sentinel, .sentinel, .sentinel] true :=
  OpenClaim.laidByTextAt_later rfl rfl tie2 noOwnUnsafe
theorem tie3 : Tryd.prog.laidByTextLater [("pasodoble/api.ErrArg", Rows.laid_pasodoble_api_ErrArg), ("pasodoble/api.ErrNil", Rows.laid_pasodoble_api_ErrNil), ("pasodoble/api.ErrForm", Rows.laid_pasodoble_api_ErrForm), ("pasodoble/api.ErrLong", Rows.laid_pasodoble_api_ErrLong), ("pasodoble/api.ErrSum", Rows.laid_pasodoble_api_ErrSum)] [.sentinel, .sentinel, .sentinel, .sentinel, .sentinel] true :=
  Program.laidByTextLater.sub seatTie1 ["pasodoble/api.ErrArg", "pasodoble/api.ErrNil", "pasodoble/api.ErrForm", "pasodoble/api.ErrLong", "pasodoble/api.ErrSum"] (by kernel_rfl) (by kernel_rfl)
theorem parcelBack_row_tie : Rows.parcelBackRow.laidByTextAt .later Tryd.pinned [.sentinel, .sentinel, .sentinel, .sentinel, .sentinel] true :=
  OpenClaim.laidByTextAt_later rfl rfl tie3 noOwnUnsafe
theorem parcelTells_row_tie : Rows.parcelTellsRow.laidByTextAt .later Tryd.pinned [.sentinel, .sentinel, .sentinel, .sentinel, .sentinel] true :=
  OpenClaim.laidByTextAt_later rfl rfl tie3 noOwnUnsafe
theorem parcelShort_row_tie : Rows.parcelShortRow.laidByTextAt .later Tryd.pinned [.sentinel, .sentinel, .sentinel, .sentinel, .sentinel] true :=
  OpenClaim.laidByTextAt_later rfl rfl tie3 noOwnUnsafe
theorem tie4 : Tryd.prog.laidByTextLater [("pasodoble/api.ErrArg", Rows.laid_pasodoble_api_ErrArg), ("pasodoble/api.ErrNil", Rows.laid_pasodoble_api_ErrNil), ("pasodoble/api.ErrForm", Rows.laid_pasodoble_api_ErrForm), ("pasodoble/api.ErrLong", Rows.laid_pasodoble_api_ErrLong), ("pasodoble/api.ErrSum", Rows.laid_pasodoble_api_ErrSum), ("pasodoble/parcel.names", Rows.laid_pasodoble_parcel_names)] [.sentinel, .sentinel, .sentinel, .sentinel, .sentinel, .data] true :=
  Program.laidByTextLater.sub seatTie1 ["pasodoble/api.ErrArg", "pasodoble/api.ErrNil", "pasodoble/api.ErrForm", "pasodoble/api.ErrLong", "pasodoble/api.ErrSum", "pasodoble/parcel.names"] (by kernel_rfl) (by kernel_rfl)
theorem parcelWrites_row_tie : Rows.parcelWritesRow.laidByTextAt .later Tryd.pinned [.sentinel, .sentinel, .sentinel, .sentinel, .sentinel, .data] true :=
  OpenClaim.laidByTextAt_later rfl rfl tie4 noOwnUnsafe
theorem strandWritesUpto_row_tie : Rows.strandWritesUptoRow.laidByTextAt .later Tryd.pinned [.sentinel, .sentinel, .sentinel, .sentinel, .sentinel, .sentinel, .sentinel, .sentinel, .sentinel, .sentinel, .sentinel, .sentinel, .sentinel, .sentinel, .sentinel, .sentinel, .sentinel, .sentinel] true :=
  OpenClaim.laidByTextAt_later rfl rfl tie noOwnUnsafe
theorem strandReadsUpto_row_tie : Rows.strandReadsUptoRow.laidByTextAt .later Tryd.pinned [.sentinel, .sentinel, .sentinel, .sentinel] true :=
  OpenClaim.laidByTextAt_later rfl rfl tie2 noOwnUnsafe
theorem strandBackUpto_row_tie : Rows.strandBackUptoRow.laidByTextAt .later Tryd.pinned [.sentinel, .sentinel, .sentinel, .sentinel] true :=
  OpenClaim.laidByTextAt_later rfl rfl tie2 noOwnUnsafe
theorem strandFormsUpto_row_tie : Rows.strandFormsUptoRow.laidByTextAt .later Tryd.pinned [.sentinel, .sentinel, .sentinel, .sentinel] true :=
  OpenClaim.laidByTextAt_later rfl rfl tie2 noOwnUnsafe
theorem strandCutsUpto_row_tie : Rows.strandCutsUptoRow.laidByTextAt .later Tryd.pinned [.sentinel, .sentinel, .sentinel, .sentinel] true :=
  OpenClaim.laidByTextAt_later rfl rfl tie2 noOwnUnsafe
theorem strandBoundsUpto_row_tie : Rows.strandBoundsUptoRow.laidByTextAt .later Tryd.pinned [.sentinel, .sentinel, .sentinel, .sentinel] true :=
  OpenClaim.laidByTextAt_later rfl rfl tie2 noOwnUnsafe
theorem parcelBackUpto_row_tie : Rows.parcelBackUptoRow.laidByTextAt .later Tryd.pinned [.sentinel, .sentinel, .sentinel, .sentinel, .sentinel] true :=
  OpenClaim.laidByTextAt_later rfl rfl tie3 noOwnUnsafe
theorem parcelTellsUpto_row_tie : Rows.parcelTellsUptoRow.laidByTextAt .later Tryd.pinned [.sentinel, .sentinel, .sentinel, .sentinel, .sentinel] true :=
  OpenClaim.laidByTextAt_later rfl rfl tie3 noOwnUnsafe
theorem parcelShortUpto_row_tie : Rows.parcelShortUptoRow.laidByTextAt .later Tryd.pinned [.sentinel, .sentinel, .sentinel, .sentinel, .sentinel] true :=
  OpenClaim.laidByTextAt_later rfl rfl tie3 noOwnUnsafe
theorem parcelWritesUpto_row_tie : Rows.parcelWritesUptoRow.laidByTextAt .later Tryd.pinned [.sentinel, .sentinel, .sentinel, .sentinel, .sentinel, .data] true :=
  OpenClaim.laidByTextAt_later rfl rfl tie4 noOwnUnsafe
theorem parcelReadsUpto_row_tie : Rows.parcelReadsUptoRow.laidByTextAt .later Tryd.pinned [.sentinel, .sentinel, .sentinel, .sentinel, .sentinel, .sentinel, .sentinel, .sentinel, .sentinel, .sentinel, .sentinel, .sentinel, .sentinel, .sentinel, .sentinel, .sentinel, .sentinel, .sentinel] true :=
  OpenClaim.laidByTextAt_later rfl rfl tie noOwnUnsafe
end Go.Proofs.YtgdbpicelnoacaaDoor
