/-
  NARROWER THAN 'FOR EVERY INPUT', by the rows' own cells (each row's printed sentence says how): QueueGets: laid · QueueTells: laid · QueueForgets: laid · LineKeeps: laid · LineCounts: laid · LineSpoils: laid · QueueCloses: laid · LineExact: laid · QueueExact: laid.
  DERIVED. THE GIVEN ROWS OF THIS SEAT. 9 by the template 'for every input the law returns true; each argument reads behind the call as it read before'; 0 by the template 'total and deterministic' (their statements: YtkpbjahjiajodaaDoorTotals.lean).
  GIVEN WITH THE SEED: the statements are not yours to turn. If you find one false, say at which input.
  Laid BY PROGRAM, IN A SANDBOX (cutbox-rows.mjs): the forced cells as the released guide's own fill.sh prints them over the translation f37eb72e20c73986… (all of the seat's roots in one cut). By AI agents, Wed Nov 11 2026. No macro, syntax, notation, axiom, sorry.
-/
import Derived.Test.YtkpbjahjiajodaaDoorChecked
import GoSem.Claim
import GoSem.ClaimJoined
import GoSem.ClaimMapViews
import Derived.JoinedTies
import Derived.KernelRfl
namespace Go.Proofs.YtkpbjahjiajodaaDoor
/- THE CELL 'sum', in the pinned program and in every row, IS THE sha256 OF THE DUMP (.gsa) THAT YtkpbjahjiajodaaDoorProg.lean LOADS. Nothing in Lean hashes anything: it is a label: what it is worth is what the hold of that sum in a sandbox is worth. -/
noncomputable def Tryd.pinned : Pinned := { name := "ytkpbjahjiajodaadoor", sum := "f37eb72e20c73986f954abfb8962e67b9e6d8ae0b9a1ed4396cf283d0bf4d139", checked := Tryd.checked }
namespace Rows
def none {H : Type} : Left H := { results := [], args := [] }

/- WHAT THE LISTED PACKAGE-LEVEL VARIABLES READ AS WHEN THE CALL BEGINS. Each datum BY PROGRAM (the guide's laid-datum.mjs) off the statement by which the dump's own 'gosem.cut.vars' lays the variable. In a bare row this is a premise. The card (YtkpbjahjiajodaaDoorCards.lean) ties it to the program's text. -/
def laid_pasodoble_api_ErrArg {H : Type} : DataW H := .iface "*errors.errorString" (.ptr (.agg [.lit (.string [97, 110, 32, 97, 114, 103, 117, 109, 101, 110, 116, 32, 116, 104, 97, 116, 32, 99, 97, 110, 39, 116, 32, 98, 101])]))
def laid_pasodoble_api_ErrNil {H : Type} : DataW H := .iface "*errors.errorString" (.ptr (.agg [.lit (.string [97, 32, 110, 105, 108, 32, 116, 104, 105, 110, 103])]))
def laid_pasodoble_api_ErrFull {H : Type} : DataW H := .iface "*errors.errorString" (.ptr (.agg [.lit (.string [110, 111, 32, 114, 111, 111, 109])]))
def laid_pasodoble_api_ErrState {H : Type} : DataW H := .iface "*errors.errorString" (.ptr (.agg [.lit (.string [110, 111, 116, 32, 110, 111, 119])]))
def laid_pasodoble_api_ErrTwice {H : Type} : DataW H := .iface "*errors.errorString" (.ptr (.agg [.lit (.string [116, 104, 101, 114, 101, 32, 97, 108, 114, 101, 97, 100, 121])]))
def laid_pasodoble_api_ErrLong {H : Type} : DataW H := .iface "*errors.errorString" (.ptr (.agg [.lit (.string [116, 111, 111, 32, 108, 111, 110, 103])]))
def laid_pasodoble_api_ErrNone {H : Type} : DataW H := .iface "*errors.errorString" (.ptr (.agg [.lit (.string [116, 104, 101, 114, 101, 32, 105, 115, 32, 110, 111, 110, 101])]))
def laid_pasodoble_api_ErrForm {H : Type} : DataW H := .iface "*errors.errorString" (.ptr (.agg [.lit (.string [98, 121, 116, 101, 115, 32, 111, 102, 32, 110, 111, 32, 102, 111, 114, 109])]))
def laid_pasodoble_api_ErrSum {H : Type} : DataW H := .iface "*errors.errorString" (.ptr (.agg [.lit (.string [97, 110, 111, 116, 104, 101, 114, 32, 115, 117, 109])]))
def laid_pasodoble_api_ErrName {H : Type} : DataW H := .iface "*errors.errorString" (.ptr (.agg [.lit (.string [110, 111, 32, 110, 97, 109, 101])]))
def laid_pasodoble_api_ErrCycle {H : Type} : DataW H := .iface "*errors.errorString" (.ptr (.agg [.lit (.string [101, 97, 99, 104, 32, 97, 104, 101, 97, 100, 32, 111, 102, 32, 116, 104, 101, 32, 111, 116, 104, 101, 114])]))
def laid_pasodoble_api_ErrStack {H : Type} : DataW H := .iface "*errors.errorString" (.ptr (.agg [.lit (.string [116, 111, 111, 32, 108, 105, 116, 116, 108, 101, 32, 111, 114, 32, 116, 111, 111, 32, 109, 117, 99, 104, 32, 111, 110, 32, 97, 32, 115, 116, 97, 99, 107])]))
def laid_pasodoble_api_ErrJump {H : Type} : DataW H := .iface "*errors.errorString" (.ptr (.agg [.lit (.string [97, 32, 106, 117, 109, 112, 32, 116, 111, 32, 110, 111, 119, 104, 101, 114, 101])]))
def laid_pasodoble_api_ErrOp {H : Type} : DataW H := .iface "*errors.errorString" (.ptr (.agg [.lit (.string [110, 111, 32, 111, 112, 101, 114, 97, 116, 105, 111, 110])]))
def laid_pasodoble_api_ErrFuel {H : Type} : DataW H := .iface "*errors.errorString" (.ptr (.agg [.lit (.string [110, 111, 32, 102, 117, 101, 108, 32, 108, 101, 102, 116])]))
def laid_pasodoble_api_ErrRange {H : Type} : DataW H := .iface "*errors.errorString" (.ptr (.agg [.lit (.string [97, 32, 102, 114, 97, 109, 101, 32, 116, 104, 97, 116, 32, 105, 115, 110, 39, 116, 32, 107, 101, 112, 116])]))
def laid_pasodoble_api_ErrDead {H : Type} : DataW H := .iface "*errors.errorString" (.ptr (.agg [.lit (.string [97, 110, 32, 101, 110, 116, 105, 116, 121, 32, 116, 104, 97, 116, 32, 105, 115, 110, 39, 116, 32, 116, 104, 101, 114, 101])]))
def laid_pasodoble_api_ErrWord {H : Type} : DataW H := .iface "*errors.errorString" (.ptr (.agg [.lit (.string [110, 111, 32, 119, 111, 114, 100])]))

/-- 'pasodoblelaw23.QueueGets': WHATEVER THE INPUT: true; the input reads as it did. -/
def queueGetsSpec : ChangeSpec := { name := "queueGets", fn := fun _ => fun
  | [d1, d2, d3] => { results := [.lit (.bool true)], args := [d1, d2, d3] }
  | _ => none }
def queueGetsRow : OpenClaim := { program := "ytkpbjahjiajodaadoor", sum := "f37eb72e20c73986f954abfb8962e67b9e6d8ae0b9a1ed4396cf283d0bf4d139", func := "pasodoble/pasodoblelaw23.QueueGets", spec := "queueGets", inPlace := ["internal/reflectlite.TypeOf"], unfollowed := true, recurses := true, named := ["pasodoble/api.ErrTwice", "pasodoble/api.ErrArg", "pasodoble/api.ErrNil", "pasodoble/api.ErrState", "pasodoble/api.ErrFull"], apart := false, laid := [("pasodoble/api.ErrArg", laid_pasodoble_api_ErrArg), ("pasodoble/api.ErrNil", laid_pasodoble_api_ErrNil), ("pasodoble/api.ErrFull", laid_pasodoble_api_ErrFull), ("pasodoble/api.ErrState", laid_pasodoble_api_ErrState), ("pasodoble/api.ErrTwice", laid_pasodoble_api_ErrTwice)] }
def QueueGetsSaid : Prop := queueGetsRow.holds Tryd.pinned (OpenSpec.ofChange queueGetsSpec)

/-- ITS FALSE NEIGHBOUR: 'it returns false'. Refute it at one input. -/
def queueGetsWrong : ChangeSpec := { name := "queueGets", fn := fun _ => fun
  | [d1, d2, d3] => { results := [.lit (.bool false)], args := [d1, d2, d3] }
  | _ => none }
def QueueGetsWrongFalsely : Prop := queueGetsRow.holds Tryd.pinned (OpenSpec.ofChange queueGetsWrong)

/-- 'pasodoblelaw23.QueueTells': WHATEVER THE INPUT: true; the input reads as it did. -/
def queueTellsSpec : ChangeSpec := { name := "queueTells", fn := fun _ => fun
  | [d1, d2] => { results := [.lit (.bool true)], args := [d1, d2] }
  | _ => none }
def queueTellsRow : OpenClaim := { program := "ytkpbjahjiajodaadoor", sum := "f37eb72e20c73986f954abfb8962e67b9e6d8ae0b9a1ed4396cf283d0bf4d139", func := "pasodoble/pasodoblelaw23.QueueTells", spec := "queueTells", inPlace := ["internal/reflectlite.TypeOf"], unfollowed := true, recurses := true, named := ["pasodoble/api.ErrTwice", "pasodoble/api.ErrArg", "pasodoble/api.ErrNil", "pasodoble/api.ErrState", "pasodoble/api.ErrFull"], apart := false, laid := [("pasodoble/api.ErrArg", laid_pasodoble_api_ErrArg), ("pasodoble/api.ErrNil", laid_pasodoble_api_ErrNil), ("pasodoble/api.ErrFull", laid_pasodoble_api_ErrFull), ("pasodoble/api.ErrState", laid_pasodoble_api_ErrState), ("pasodoble/api.ErrTwice", laid_pasodoble_api_ErrTwice)] }
def QueueTellsSaid : Prop := queueTellsRow.holds Tryd.pinned (OpenSpec.ofChange queueTellsSpec)

/-- ITS FALSE NEIGHBOUR: 'it returns false'. Refute it at one input. -/
def queueTellsWrong : ChangeSpec := { name := "queueTells", fn := fun _ => fun
  | [d1, d2] => { results := [.lit (.bool false)], args := [d1, d2] }
  | _ => none }
def QueueTellsWrongFalsely : Prop := queueTellsRow.holds Tryd.pinned (OpenSpec.ofChange queueTellsWrong)

/-- 'pasodoblelaw23.QueueForgets': WHATEVER THE INPUT: true; the input reads as it did. -/
def queueForgetsSpec : ChangeSpec := { name := "queueForgets", fn := fun _ => fun
  | [d1, d2] => { results := [.lit (.bool true)], args := [d1, d2] }
  | _ => none }
def queueForgetsRow : OpenClaim := { program := "ytkpbjahjiajodaadoor", sum := "f37eb72e20c73986f954abfb8962e67b9e6d8ae0b9a1ed4396cf283d0bf4d139", func := "pasodoble/pasodoblelaw23.QueueForgets", spec := "queueForgets", inPlace := ["internal/reflectlite.TypeOf"], unfollowed := true, recurses := true, named := ["pasodoble/api.ErrTwice", "pasodoble/api.ErrArg", "pasodoble/api.ErrNil", "pasodoble/api.ErrState", "pasodoble/api.ErrFull"], apart := false, laid := [("pasodoble/api.ErrArg", laid_pasodoble_api_ErrArg), ("pasodoble/api.ErrNil", laid_pasodoble_api_ErrNil), ("pasodoble/api.ErrFull", laid_pasodoble_api_ErrFull), ("pasodoble/api.ErrState", laid_pasodoble_api_ErrState), ("pasodoble/api.ErrTwice", laid_pasodoble_api_ErrTwice)] }
def QueueForgetsSaid : Prop := queueForgetsRow.holds Tryd.pinned (OpenSpec.ofChange queueForgetsSpec)

/-- ITS FALSE NEIGHBOUR: 'it returns false'. Refute it at one input. -/
def queueForgetsWrong : ChangeSpec := { name := "queueForgets", fn := fun _ => fun
  | [d1, d2] => { results := [.lit (.bool false)], args := [d1, d2] }
  | _ => none }
def QueueForgetsWrongFalsely : Prop := queueForgetsRow.holds Tryd.pinned (OpenSpec.ofChange queueForgetsWrong)

/-- 'pasodoblelaw25.LineKeeps': WHATEVER THE INPUT: true; the input reads as it did. -/
def lineKeepsSpec : ChangeSpec := { name := "lineKeeps", fn := fun _ => fun
  | [d] => { results := [.lit (.bool true)], args := [d] }
  | _ => none }
def lineKeepsRow : OpenClaim := { program := "ytkpbjahjiajodaadoor", sum := "f37eb72e20c73986f954abfb8962e67b9e6d8ae0b9a1ed4396cf283d0bf4d139", func := "pasodoble/pasodoblelaw25.LineKeeps", spec := "lineKeeps", inPlace := ["internal/reflectlite.TypeOf"], unfollowed := true, recurses := true, named := ["pasodoble/api.ErrFull", "pasodoble/api.ErrNone", "pasodoble/api.ErrArg", "pasodoble/api.ErrNil", "pasodoble/api.ErrLong"], apart := false, laid := [("pasodoble/api.ErrArg", laid_pasodoble_api_ErrArg), ("pasodoble/api.ErrNil", laid_pasodoble_api_ErrNil), ("pasodoble/api.ErrLong", laid_pasodoble_api_ErrLong), ("pasodoble/api.ErrFull", laid_pasodoble_api_ErrFull), ("pasodoble/api.ErrNone", laid_pasodoble_api_ErrNone)] }
def LineKeepsSaid : Prop := lineKeepsRow.holds Tryd.pinned (OpenSpec.ofChange lineKeepsSpec)

/-- ITS FALSE NEIGHBOUR: 'it returns false'. Refute it at one input. -/
def lineKeepsWrong : ChangeSpec := { name := "lineKeeps", fn := fun _ => fun
  | [d] => { results := [.lit (.bool false)], args := [d] }
  | _ => none }
def LineKeepsWrongFalsely : Prop := lineKeepsRow.holds Tryd.pinned (OpenSpec.ofChange lineKeepsWrong)

/-- 'pasodoblelaw25.LineCounts': WHATEVER THE INPUT: true; the input reads as it did. -/
def lineCountsSpec : ChangeSpec := { name := "lineCounts", fn := fun _ => fun
  | [d1, d2] => { results := [.lit (.bool true)], args := [d1, d2] }
  | _ => none }
def lineCountsRow : OpenClaim := { program := "ytkpbjahjiajodaadoor", sum := "f37eb72e20c73986f954abfb8962e67b9e6d8ae0b9a1ed4396cf283d0bf4d139", func := "pasodoble/pasodoblelaw25.LineCounts", spec := "lineCounts", inPlace := ["internal/reflectlite.TypeOf"], unfollowed := true, recurses := true, named := ["pasodoble/api.ErrFull", "pasodoble/api.ErrNone", "pasodoble/api.ErrArg", "pasodoble/api.ErrNil", "pasodoble/api.ErrLong"], apart := false, laid := [("pasodoble/api.ErrArg", laid_pasodoble_api_ErrArg), ("pasodoble/api.ErrNil", laid_pasodoble_api_ErrNil), ("pasodoble/api.ErrLong", laid_pasodoble_api_ErrLong), ("pasodoble/api.ErrFull", laid_pasodoble_api_ErrFull), ("pasodoble/api.ErrNone", laid_pasodoble_api_ErrNone)] }
def LineCountsSaid : Prop := lineCountsRow.holds Tryd.pinned (OpenSpec.ofChange lineCountsSpec)

/-- ITS FALSE NEIGHBOUR: 'it returns false'. Refute it at one input. -/
def lineCountsWrong : ChangeSpec := { name := "lineCounts", fn := fun _ => fun
  | [d1, d2] => { results := [.lit (.bool false)], args := [d1, d2] }
  | _ => none }
def LineCountsWrongFalsely : Prop := lineCountsRow.holds Tryd.pinned (OpenSpec.ofChange lineCountsWrong)

/-- 'pasodoblelaw25.LineSpoils': WHATEVER THE INPUT: true; the input reads as it did. -/
def lineSpoilsSpec : ChangeSpec := { name := "lineSpoils", fn := fun _ => fun
  | [d1, d2, d3, d4] => { results := [.lit (.bool true)], args := [d1, d2, d3, d4] }
  | _ => none }
def lineSpoilsRow : OpenClaim := { program := "ytkpbjahjiajodaadoor", sum := "f37eb72e20c73986f954abfb8962e67b9e6d8ae0b9a1ed4396cf283d0bf4d139", func := "pasodoble/pasodoblelaw25.LineSpoils", spec := "lineSpoils", inPlace := ["internal/reflectlite.TypeOf"], unfollowed := true, recurses := true, named := ["pasodoble/api.ErrArg", "pasodoble/api.ErrNil", "pasodoble/api.ErrFull", "pasodoble/api.ErrNone", "pasodoble/api.ErrLong"], apart := false, laid := [("pasodoble/api.ErrArg", laid_pasodoble_api_ErrArg), ("pasodoble/api.ErrNil", laid_pasodoble_api_ErrNil), ("pasodoble/api.ErrLong", laid_pasodoble_api_ErrLong), ("pasodoble/api.ErrFull", laid_pasodoble_api_ErrFull), ("pasodoble/api.ErrNone", laid_pasodoble_api_ErrNone)] }
def LineSpoilsSaid : Prop := lineSpoilsRow.holds Tryd.pinned (OpenSpec.ofChange lineSpoilsSpec)

/-- ITS FALSE NEIGHBOUR: 'it returns false'. Refute it at one input. -/
def lineSpoilsWrong : ChangeSpec := { name := "lineSpoils", fn := fun _ => fun
  | [d1, d2, d3, d4] => { results := [.lit (.bool false)], args := [d1, d2, d3, d4] }
  | _ => none }
def LineSpoilsWrongFalsely : Prop := lineSpoilsRow.holds Tryd.pinned (OpenSpec.ofChange lineSpoilsWrong)

/-- 'pasodoblelaw23.QueueCloses': WHATEVER THE INPUT: true; the input reads as it did. -/
def queueClosesSpec : ChangeSpec := { name := "queueCloses", fn := fun _ => fun
  | [d1, d2, d3] => { results := [.lit (.bool true)], args := [d1, d2, d3] }
  | _ => none }
def queueClosesRow : OpenClaim := { program := "ytkpbjahjiajodaadoor", sum := "f37eb72e20c73986f954abfb8962e67b9e6d8ae0b9a1ed4396cf283d0bf4d139", func := "pasodoble/pasodoblelaw23.QueueCloses", spec := "queueCloses", inPlace := ["internal/reflectlite.TypeOf"], unfollowed := true, recurses := true, named := ["pasodoble/api.ErrState", "pasodoble/api.ErrNil", "pasodoble/api.ErrTwice", "pasodoble/api.ErrArg", "pasodoble/api.ErrFull"], apart := false, laid := [("pasodoble/api.ErrArg", laid_pasodoble_api_ErrArg), ("pasodoble/api.ErrNil", laid_pasodoble_api_ErrNil), ("pasodoble/api.ErrFull", laid_pasodoble_api_ErrFull), ("pasodoble/api.ErrState", laid_pasodoble_api_ErrState), ("pasodoble/api.ErrTwice", laid_pasodoble_api_ErrTwice)] }
def QueueClosesSaid : Prop := queueClosesRow.holds Tryd.pinned (OpenSpec.ofChange queueClosesSpec)

/-- ITS FALSE NEIGHBOUR: 'it returns false'. Refute it at one input. -/
def queueClosesWrong : ChangeSpec := { name := "queueCloses", fn := fun _ => fun
  | [d1, d2, d3] => { results := [.lit (.bool false)], args := [d1, d2, d3] }
  | _ => none }
def QueueClosesWrongFalsely : Prop := queueClosesRow.holds Tryd.pinned (OpenSpec.ofChange queueClosesWrong)

/-- 'pasodoblelaw25.LineExact': WHATEVER THE INPUT: true; the input reads as it did. -/
def lineExactSpec : ChangeSpec := { name := "lineExact", fn := fun _ => fun
  | [d1, d2] => { results := [.lit (.bool true)], args := [d1, d2] }
  | _ => none }
def lineExactRow : OpenClaim := { program := "ytkpbjahjiajodaadoor", sum := "f37eb72e20c73986f954abfb8962e67b9e6d8ae0b9a1ed4396cf283d0bf4d139", func := "pasodoble/pasodoblelaw25.LineExact", spec := "lineExact", inPlace := ["internal/reflectlite.TypeOf"], unfollowed := true, recurses := true, named := ["pasodoble/api.ErrArg", "pasodoble/api.ErrFull", "pasodoble/api.ErrNone", "pasodoble/api.ErrNil", "pasodoble/api.ErrLong", "pasodoble/api.ErrForm", "pasodoble/api.ErrSum", "pasodoble/api.ErrState", "pasodoble/api.ErrTwice", "pasodoble/api.ErrName", "pasodoble/api.ErrCycle", "pasodoble/api.ErrStack", "pasodoble/api.ErrJump", "pasodoble/api.ErrOp", "pasodoble/api.ErrFuel", "pasodoble/api.ErrRange", "pasodoble/api.ErrDead", "pasodoble/api.ErrWord"], apart := false, laid := [("pasodoble/api.ErrArg", laid_pasodoble_api_ErrArg), ("pasodoble/api.ErrNil", laid_pasodoble_api_ErrNil), ("pasodoble/api.ErrForm", laid_pasodoble_api_ErrForm), ("pasodoble/api.ErrLong", laid_pasodoble_api_ErrLong), ("pasodoble/api.ErrSum", laid_pasodoble_api_ErrSum), ("pasodoble/api.ErrFull", laid_pasodoble_api_ErrFull), ("pasodoble/api.ErrNone", laid_pasodoble_api_ErrNone), ("pasodoble/api.ErrState", laid_pasodoble_api_ErrState), ("pasodoble/api.ErrTwice", laid_pasodoble_api_ErrTwice), ("pasodoble/api.ErrName", laid_pasodoble_api_ErrName), ("pasodoble/api.ErrCycle", laid_pasodoble_api_ErrCycle), ("pasodoble/api.ErrStack", laid_pasodoble_api_ErrStack), ("pasodoble/api.ErrJump", laid_pasodoble_api_ErrJump), ("pasodoble/api.ErrOp", laid_pasodoble_api_ErrOp), ("pasodoble/api.ErrFuel", laid_pasodoble_api_ErrFuel), ("pasodoble/api.ErrRange", laid_pasodoble_api_ErrRange), ("pasodoble/api.ErrDead", laid_pasodoble_api_ErrDead), ("pasodoble/api.ErrWord", laid_pasodoble_api_ErrWord)] }
def LineExactSaid : Prop := lineExactRow.holds Tryd.pinned (OpenSpec.ofChange lineExactSpec)

/-- ITS FALSE NEIGHBOUR: 'it returns false'. Refute it at one input. -/
def lineExactWrong : ChangeSpec := { name := "lineExact", fn := fun _ => fun
  | [d1, d2] => { results := [.lit (.bool false)], args := [d1, d2] }
  | _ => none }
def LineExactWrongFalsely : Prop := lineExactRow.holds Tryd.pinned (OpenSpec.ofChange lineExactWrong)

/-- 'pasodoblelaw23.QueueExact': WHATEVER THE INPUT: true; the input reads as it did. -/
def queueExactSpec : ChangeSpec := { name := "queueExact", fn := fun _ => fun
  | [d1, d2] => { results := [.lit (.bool true)], args := [d1, d2] }
  | _ => none }
def queueExactRow : OpenClaim := { program := "ytkpbjahjiajodaadoor", sum := "f37eb72e20c73986f954abfb8962e67b9e6d8ae0b9a1ed4396cf283d0bf4d139", func := "pasodoble/pasodoblelaw23.QueueExact", spec := "queueExact", inPlace := ["internal/reflectlite.TypeOf"], unfollowed := true, recurses := true, named := ["pasodoble/api.ErrArg", "pasodoble/api.ErrTwice", "pasodoble/api.ErrNil", "pasodoble/api.ErrState", "pasodoble/api.ErrFull", "pasodoble/api.ErrForm", "pasodoble/api.ErrLong", "pasodoble/api.ErrSum", "pasodoble/api.ErrNone", "pasodoble/api.ErrName", "pasodoble/api.ErrCycle", "pasodoble/api.ErrStack", "pasodoble/api.ErrJump", "pasodoble/api.ErrOp", "pasodoble/api.ErrFuel", "pasodoble/api.ErrRange", "pasodoble/api.ErrDead", "pasodoble/api.ErrWord"], apart := false, laid := [("pasodoble/api.ErrArg", laid_pasodoble_api_ErrArg), ("pasodoble/api.ErrNil", laid_pasodoble_api_ErrNil), ("pasodoble/api.ErrForm", laid_pasodoble_api_ErrForm), ("pasodoble/api.ErrLong", laid_pasodoble_api_ErrLong), ("pasodoble/api.ErrSum", laid_pasodoble_api_ErrSum), ("pasodoble/api.ErrFull", laid_pasodoble_api_ErrFull), ("pasodoble/api.ErrNone", laid_pasodoble_api_ErrNone), ("pasodoble/api.ErrState", laid_pasodoble_api_ErrState), ("pasodoble/api.ErrTwice", laid_pasodoble_api_ErrTwice), ("pasodoble/api.ErrName", laid_pasodoble_api_ErrName), ("pasodoble/api.ErrCycle", laid_pasodoble_api_ErrCycle), ("pasodoble/api.ErrStack", laid_pasodoble_api_ErrStack), ("pasodoble/api.ErrJump", laid_pasodoble_api_ErrJump), ("pasodoble/api.ErrOp", laid_pasodoble_api_ErrOp), ("pasodoble/api.ErrFuel", laid_pasodoble_api_ErrFuel), ("pasodoble/api.ErrRange", laid_pasodoble_api_ErrRange), ("pasodoble/api.ErrDead", laid_pasodoble_api_ErrDead), ("pasodoble/api.ErrWord", laid_pasodoble_api_ErrWord)] }
def QueueExactSaid : Prop := queueExactRow.holds Tryd.pinned (OpenSpec.ofChange queueExactSpec)

/-- ITS FALSE NEIGHBOUR: 'it returns false'. Refute it at one input. -/
def queueExactWrong : ChangeSpec := { name := "queueExact", fn := fun _ => fun
  | [d1, d2] => { results := [.lit (.bool false)], args := [d1, d2] }
  | _ => none }
def QueueExactWrongFalsely : Prop := queueExactRow.holds Tryd.pinned (OpenSpec.ofChange queueExactWrong)

/- THE SECOND FORM. 'bulk': how many values and letters a reading holds, each counted each time it is reached (what is shared counts as often as it is met; a slice's spare places count too). A statement '..UptoSaid' is the law's where the arguments, and the package variables that the reading takes, are together of bulk at most 1048576: NARROWER than '..Said'. Prove '..Said' where nothing that the law and all that it calls make is longer than what came in: it says more and counts as full. Else prove '..UptoSaid'. A law counts once. -/
mutual
def uptoBulk {H : Type} : DataW H → Nat
  | .lit (.string bytes) => bytes.length + 1
  | .lit _ => 1
  | .nil => 1
  | .ptr d => uptoBulk d + 1
  | .slice elems spare => uptoBulkAll elems + uptoBulkAll spare + 1
  | .agg parts => uptoBulkAll parts + 1
  | .iface _ d => uptoBulk d + 1
  | .map entries => uptoBulkEntries entries + 1
  | .held _ => 1
def uptoBulkAll {H : Type} : List (DataW H) → Nat
  | [] => 0
  | d :: r => uptoBulk d + uptoBulkAll r
def uptoBulkEntries {H : Type} : List (Lit × DataW H) → Nat
  | [] => 0
  | x :: r => uptoBulkEntry x + uptoBulkEntries r
def uptoBulkEntry {H : Type} : Lit × DataW H → Nat
  | (.string bytes, d) => bytes.length + uptoBulk d + 1
  | (_, d) => uptoBulk d + 1
 end
def uptoSmall : (H : Type) → List (DataW H) → Bool := fun _ ds => decide (uptoBulkAll ds ≤ 1048576)
def OpenSpec.upto (s : _root_.Go.ChangeSpec) : _root_.Go.OpenSpec := { _root_.Go.OpenSpec.ofChange s with cond := some uptoSmall }

/-- 'pasodoblelaw23.QueueGets', WHERE WHAT IT READS IS OF BULK AT MOST 1048576: true; the input reads as it did. -/
def queueGetsUptoRow : OpenClaim := { program := "ytkpbjahjiajodaadoor", sum := "f37eb72e20c73986f954abfb8962e67b9e6d8ae0b9a1ed4396cf283d0bf4d139", func := "pasodoble/pasodoblelaw23.QueueGets", spec := "queueGets", inPlace := ["internal/reflectlite.TypeOf"], unfollowed := true, recurses := true, named := ["pasodoble/api.ErrTwice", "pasodoble/api.ErrArg", "pasodoble/api.ErrNil", "pasodoble/api.ErrState", "pasodoble/api.ErrFull"], apart := false, laid := [("pasodoble/api.ErrArg", laid_pasodoble_api_ErrArg), ("pasodoble/api.ErrNil", laid_pasodoble_api_ErrNil), ("pasodoble/api.ErrFull", laid_pasodoble_api_ErrFull), ("pasodoble/api.ErrState", laid_pasodoble_api_ErrState), ("pasodoble/api.ErrTwice", laid_pasodoble_api_ErrTwice)], narrowed := true }
def QueueGetsUptoSaid : Prop := queueGetsUptoRow.holds Tryd.pinned (OpenSpec.upto queueGetsSpec)

/-- 'pasodoblelaw23.QueueTells', WHERE WHAT IT READS IS OF BULK AT MOST 1048576: true; the input reads as it did. -/
def queueTellsUptoRow : OpenClaim := { program := "ytkpbjahjiajodaadoor", sum := "f37eb72e20c73986f954abfb8962e67b9e6d8ae0b9a1ed4396cf283d0bf4d139", func := "pasodoble/pasodoblelaw23.QueueTells", spec := "queueTells", inPlace := ["internal/reflectlite.TypeOf"], unfollowed := true, recurses := true, named := ["pasodoble/api.ErrTwice", "pasodoble/api.ErrArg", "pasodoble/api.ErrNil", "pasodoble/api.ErrState", "pasodoble/api.ErrFull"], apart := false, laid := [("pasodoble/api.ErrArg", laid_pasodoble_api_ErrArg), ("pasodoble/api.ErrNil", laid_pasodoble_api_ErrNil), ("pasodoble/api.ErrFull", laid_pasodoble_api_ErrFull), ("pasodoble/api.ErrState", laid_pasodoble_api_ErrState), ("pasodoble/api.ErrTwice", laid_pasodoble_api_ErrTwice)], narrowed := true }
def QueueTellsUptoSaid : Prop := queueTellsUptoRow.holds Tryd.pinned (OpenSpec.upto queueTellsSpec)

/-- 'pasodoblelaw23.QueueForgets', WHERE WHAT IT READS IS OF BULK AT MOST 1048576: true; the input reads as it did. -/
def queueForgetsUptoRow : OpenClaim := { program := "ytkpbjahjiajodaadoor", sum := "f37eb72e20c73986f954abfb8962e67b9e6d8ae0b9a1ed4396cf283d0bf4d139", func := "pasodoble/pasodoblelaw23.QueueForgets", spec := "queueForgets", inPlace := ["internal/reflectlite.TypeOf"], unfollowed := true, recurses := true, named := ["pasodoble/api.ErrTwice", "pasodoble/api.ErrArg", "pasodoble/api.ErrNil", "pasodoble/api.ErrState", "pasodoble/api.ErrFull"], apart := false, laid := [("pasodoble/api.ErrArg", laid_pasodoble_api_ErrArg), ("pasodoble/api.ErrNil", laid_pasodoble_api_ErrNil), ("pasodoble/api.ErrFull", laid_pasodoble_api_ErrFull), ("pasodoble/api.ErrState", laid_pasodoble_api_ErrState), ("pasodoble/api.ErrTwice", laid_pasodoble_api_ErrTwice)], narrowed := true }
def QueueForgetsUptoSaid : Prop := queueForgetsUptoRow.holds Tryd.pinned (OpenSpec.upto queueForgetsSpec)

/-- 'pasodoblelaw25.LineKeeps', WHERE WHAT IT READS IS OF BULK AT MOST 1048576: true; the input reads as it did. -/
def lineKeepsUptoRow : OpenClaim := { program := "ytkpbjahjiajodaadoor", sum := "f37eb72e20c73986f954abfb8962e67b9e6d8ae0b9a1ed4396cf283d0bf4d139", func := "pasodoble/pasodoblelaw25.LineKeeps", spec := "lineKeeps", inPlace := ["internal/reflectlite.TypeOf"], unfollowed := true, recurses := true, named := ["pasodoble/api.ErrFull", "pasodoble/api.ErrNone", "pasodoble/api.ErrArg", "pasodoble/api.ErrNil", "pasodoble/api.ErrLong"], apart := false, laid := [("pasodoble/api.ErrArg", laid_pasodoble_api_ErrArg), ("pasodoble/api.ErrNil", laid_pasodoble_api_ErrNil), ("pasodoble/api.ErrLong", laid_pasodoble_api_ErrLong), ("pasodoble/api.ErrFull", laid_pasodoble_api_ErrFull), ("pasodoble/api.ErrNone", laid_pasodoble_api_ErrNone)], narrowed := true }
def LineKeepsUptoSaid : Prop := lineKeepsUptoRow.holds Tryd.pinned (OpenSpec.upto lineKeepsSpec)

/-- 'pasodoblelaw25.LineCounts', WHERE WHAT IT READS IS OF BULK AT MOST 1048576: true; the input reads as it did. -/
def lineCountsUptoRow : OpenClaim := { program := "ytkpbjahjiajodaadoor", sum := "f37eb72e20c73986f954abfb8962e67b9e6d8ae0b9a1ed4396cf283d0bf4d139", func := "pasodoble/pasodoblelaw25.LineCounts", spec := "lineCounts", inPlace := ["internal/reflectlite.TypeOf"], unfollowed := true, recurses := true, named := ["pasodoble/api.ErrFull", "pasodoble/api.ErrNone", "pasodoble/api.ErrArg", "pasodoble/api.ErrNil", "pasodoble/api.ErrLong"], apart := false, laid := [("pasodoble/api.ErrArg", laid_pasodoble_api_ErrArg), ("pasodoble/api.ErrNil", laid_pasodoble_api_ErrNil), ("pasodoble/api.ErrLong", laid_pasodoble_api_ErrLong), ("pasodoble/api.ErrFull", laid_pasodoble_api_ErrFull), ("pasodoble/api.ErrNone", laid_pasodoble_api_ErrNone)], narrowed := true }
def LineCountsUptoSaid : Prop := lineCountsUptoRow.holds Tryd.pinned (OpenSpec.upto lineCountsSpec)

/-- 'pasodoblelaw25.LineSpoils', WHERE WHAT IT READS IS OF BULK AT MOST 1048576: true; the input reads as it did. -/
def lineSpoilsUptoRow : OpenClaim := { program := "ytkpbjahjiajodaadoor", sum := "f37eb72e20c73986f954abfb8962e67b9e6d8ae0b9a1ed4396cf283d0bf4d139", func := "pasodoble/pasodoblelaw25.LineSpoils", spec := "lineSpoils", inPlace := ["internal/reflectlite.TypeOf"], unfollowed := true, recurses := true, named := ["pasodoble/api.ErrArg", "pasodoble/api.ErrNil", "pasodoble/api.ErrFull", "pasodoble/api.ErrNone", "pasodoble/api.ErrLong"], apart := false, laid := [("pasodoble/api.ErrArg", laid_pasodoble_api_ErrArg), ("pasodoble/api.ErrNil", laid_pasodoble_api_ErrNil), ("pasodoble/api.ErrLong", laid_pasodoble_api_ErrLong), ("pasodoble/api.ErrFull", laid_pasodoble_api_ErrFull), ("pasodoble/api.ErrNone", laid_pasodoble_api_ErrNone)], narrowed := true }
def LineSpoilsUptoSaid : Prop := lineSpoilsUptoRow.holds Tryd.pinned (OpenSpec.upto lineSpoilsSpec)

/-- 'pasodoblelaw23.QueueCloses', WHERE WHAT IT READS IS OF BULK AT MOST 1048576: true; the input reads as it did. -/
def queueClosesUptoRow : OpenClaim := { program := "ytkpbjahjiajodaadoor", sum := "f37eb72e20c73986f954abfb8962e67b9e6d8ae0b9a1ed4396cf283d0bf4d139", func := "pasodoble/pasodoblelaw23.QueueCloses", spec := "queueCloses", inPlace := ["internal/reflectlite.TypeOf"], unfollowed := true, recurses := true, named := ["pasodoble/api.ErrState", "pasodoble/api.ErrNil", "pasodoble/api.ErrTwice", "pasodoble/api.ErrArg", "pasodoble/api.ErrFull"], apart := false, laid := [("pasodoble/api.ErrArg", laid_pasodoble_api_ErrArg), ("pasodoble/api.ErrNil", laid_pasodoble_api_ErrNil), ("pasodoble/api.ErrFull", laid_pasodoble_api_ErrFull), ("pasodoble/api.ErrState", laid_pasodoble_api_ErrState), ("pasodoble/api.ErrTwice", laid_pasodoble_api_ErrTwice)], narrowed := true }
def QueueClosesUptoSaid : Prop := queueClosesUptoRow.holds Tryd.pinned (OpenSpec.upto queueClosesSpec)

/-- 'pasodoblelaw25.LineExact', WHERE WHAT IT READS IS OF BULK AT MOST 1048576: true; the input reads as it did. -/
def lineExactUptoRow : OpenClaim := { program := "ytkpbjahjiajodaadoor", sum := "f37eb72e20c73986f954abfb8962e67b9e6d8ae0b9a1ed4396cf283d0bf4d139", func := "pasodoble/pasodoblelaw25.LineExact", spec := "lineExact", inPlace := ["internal/reflectlite.TypeOf"], unfollowed := true, recurses := true, named := ["pasodoble/api.ErrArg", "pasodoble/api.ErrFull", "pasodoble/api.ErrNone", "pasodoble/api.ErrNil", "pasodoble/api.ErrLong", "pasodoble/api.ErrForm", "pasodoble/api.ErrSum", "pasodoble/api.ErrState", "pasodoble/api.ErrTwice", "pasodoble/api.ErrName", "pasodoble/api.ErrCycle", "pasodoble/api.ErrStack", "pasodoble/api.ErrJump", "pasodoble/api.ErrOp", "pasodoble/api.ErrFuel", "pasodoble/api.ErrRange", "pasodoble/api.ErrDead", "pasodoble/api.ErrWord"], apart := false, laid := [("pasodoble/api.ErrArg", laid_pasodoble_api_ErrArg), ("pasodoble/api.ErrNil", laid_pasodoble_api_ErrNil), ("pasodoble/api.ErrForm", laid_pasodoble_api_ErrForm), ("pasodoble/api.ErrLong", laid_pasodoble_api_ErrLong), ("pasodoble/api.ErrSum", laid_pasodoble_api_ErrSum), ("pasodoble/api.ErrFull", laid_pasodoble_api_ErrFull), ("pasodoble/api.ErrNone", laid_pasodoble_api_ErrNone), ("pasodoble/api.ErrState", laid_pasodoble_api_ErrState), ("pasodoble/api.ErrTwice", laid_pasodoble_api_ErrTwice), ("pasodoble/api.ErrName", laid_pasodoble_api_ErrName), ("pasodoble/api.ErrCycle", laid_pasodoble_api_ErrCycle), ("pasodoble/api.ErrStack", laid_pasodoble_api_ErrStack), ("pasodoble/api.ErrJump", laid_pasodoble_api_ErrJump), ("pasodoble/api.ErrOp", laid_pasodoble_api_ErrOp), ("pasodoble/api.ErrFuel", laid_pasodoble_api_ErrFuel), ("pasodoble/api.ErrRange", laid_pasodoble_api_ErrRange), ("pasodoble/api.ErrDead", laid_pasodoble_api_ErrDead), ("pasodoble/api.ErrWord", laid_pasodoble_api_ErrWord)], narrowed := true }
def LineExactUptoSaid : Prop := lineExactUptoRow.holds Tryd.pinned (OpenSpec.upto lineExactSpec)

/-- 'pasodoblelaw23.QueueExact', WHERE WHAT IT READS IS OF BULK AT MOST 1048576: true; the input reads as it did. -/
def queueExactUptoRow : OpenClaim := { program := "ytkpbjahjiajodaadoor", sum := "f37eb72e20c73986f954abfb8962e67b9e6d8ae0b9a1ed4396cf283d0bf4d139", func := "pasodoble/pasodoblelaw23.QueueExact", spec := "queueExact", inPlace := ["internal/reflectlite.TypeOf"], unfollowed := true, recurses := true, named := ["pasodoble/api.ErrArg", "pasodoble/api.ErrTwice", "pasodoble/api.ErrNil", "pasodoble/api.ErrState", "pasodoble/api.ErrFull", "pasodoble/api.ErrForm", "pasodoble/api.ErrLong", "pasodoble/api.ErrSum", "pasodoble/api.ErrNone", "pasodoble/api.ErrName", "pasodoble/api.ErrCycle", "pasodoble/api.ErrStack", "pasodoble/api.ErrJump", "pasodoble/api.ErrOp", "pasodoble/api.ErrFuel", "pasodoble/api.ErrRange", "pasodoble/api.ErrDead", "pasodoble/api.ErrWord"], apart := false, laid := [("pasodoble/api.ErrArg", laid_pasodoble_api_ErrArg), ("pasodoble/api.ErrNil", laid_pasodoble_api_ErrNil), ("pasodoble/api.ErrForm", laid_pasodoble_api_ErrForm), ("pasodoble/api.ErrLong", laid_pasodoble_api_ErrLong), ("pasodoble/api.ErrSum", laid_pasodoble_api_ErrSum), ("pasodoble/api.ErrFull", laid_pasodoble_api_ErrFull), ("pasodoble/api.ErrNone", laid_pasodoble_api_ErrNone), ("pasodoble/api.ErrState", laid_pasodoble_api_ErrState), ("pasodoble/api.ErrTwice", laid_pasodoble_api_ErrTwice), ("pasodoble/api.ErrName", laid_pasodoble_api_ErrName), ("pasodoble/api.ErrCycle", laid_pasodoble_api_ErrCycle), ("pasodoble/api.ErrStack", laid_pasodoble_api_ErrStack), ("pasodoble/api.ErrJump", laid_pasodoble_api_ErrJump), ("pasodoble/api.ErrOp", laid_pasodoble_api_ErrOp), ("pasodoble/api.ErrFuel", laid_pasodoble_api_ErrFuel), ("pasodoble/api.ErrRange", laid_pasodoble_api_ErrRange), ("pasodoble/api.ErrDead", laid_pasodoble_api_ErrDead), ("pasodoble/api.ErrWord", laid_pasodoble_api_ErrWord)], narrowed := true }
def QueueExactUptoSaid : Prop := queueExactUptoRow.holds Tryd.pinned (OpenSpec.upto queueExactSpec)

end Rows
end Go.Proofs.YtkpbjahjiajodaaDoor
