/-
  NARROWER THAN 'FOR EVERY INPUT', by the rows' own cells (each row's printed sentence says how): StrandWrites: laid · StrandReads: laid · StrandBack: laid · StrandForms: laid · StrandCuts: laid · StrandBounds: laid · ParcelBack: laid · ParcelTells: laid · ParcelShort: laid · ParcelWrites: laid · ParcelReads: laid.
  DERIVED. THE GIVEN ROWS OF THIS SEAT. 11 by the template 'for every input the law returns true; each argument reads behind the call as it read before'; 0 by the template 'total and deterministic' (their statements: YtgdbpicelnoacaaDoorTotals.lean).
  GIVEN WITH THE SEED: the statements are not yours to turn. If you find one false, say at which input.
  Laid BY PROGRAM, IN A SANDBOX (cutbox-rows.mjs): the forced cells as the released guide's own fill.sh prints them over the translation 20b37f5bb569f333… (all of the seat's roots in one cut). By AI agents, Wed Nov 11 2026. No macro, syntax, notation, axiom, sorry.
-/
import Derived.Test.YtgdbpicelnoacaaDoorChecked
import GoSem.Claim
import GoSem.ClaimJoined
import GoSem.ClaimMapViews
import Derived.JoinedTies
import Derived.KernelRfl
namespace Go.Proofs.YtgdbpicelnoacaaDoor
/- THE CELL 'sum', in the pinned program and in every row, IS THE sha256 OF THE DUMP (.gsa) THAT YtgdbpicelnoacaaDoorProg.lean LOADS. Nothing in Lean hashes anything: it is a label: what it is worth is what the hold of that sum in a sandbox is worth. -/
noncomputable def Tryd.pinned : Pinned := { name := "ytgdbpicelnoacaadoor", sum := "20b37f5bb569f333eff5c871c9b0a33d0e589cab4955b5a24ee68511cd45c099", checked := Tryd.checked }
namespace Rows
def none {H : Type} : Left H := { results := [], args := [] }

/- WHAT THE LISTED PACKAGE-LEVEL VARIABLES READ AS WHEN THE CALL BEGINS. Each datum BY PROGRAM (the guide's laid-datum.mjs) off the statement by which the dump's own 'gosem.cut.vars' lays the variable. In a bare row this is a premise. The card (YtgdbpicelnoacaaDoorCards.lean) ties it to the program's text. -/
def laid_pasodoble_api_ErrArg {H : Type} : DataW H := .iface "*errors.errorString" (.ptr (.agg [.lit (.string [97, 110, 32, 97, 114, 103, 117, 109, 101, 110, 116, 32, 116, 104, 97, 116, 32, 99, 97, 110, 39, 116, 32, 98, 101])]))
def laid_pasodoble_api_ErrNil {H : Type} : DataW H := .iface "*errors.errorString" (.ptr (.agg [.lit (.string [97, 32, 110, 105, 108, 32, 116, 104, 105, 110, 103])]))
def laid_pasodoble_api_ErrForm {H : Type} : DataW H := .iface "*errors.errorString" (.ptr (.agg [.lit (.string [98, 121, 116, 101, 115, 32, 111, 102, 32, 110, 111, 32, 102, 111, 114, 109])]))
def laid_pasodoble_api_ErrLong {H : Type} : DataW H := .iface "*errors.errorString" (.ptr (.agg [.lit (.string [116, 111, 111, 32, 108, 111, 110, 103])]))
def laid_pasodoble_api_ErrSum {H : Type} : DataW H := .iface "*errors.errorString" (.ptr (.agg [.lit (.string [97, 110, 111, 116, 104, 101, 114, 32, 115, 117, 109])]))
def laid_pasodoble_api_ErrFull {H : Type} : DataW H := .iface "*errors.errorString" (.ptr (.agg [.lit (.string [110, 111, 32, 114, 111, 111, 109])]))
def laid_pasodoble_api_ErrNone {H : Type} : DataW H := .iface "*errors.errorString" (.ptr (.agg [.lit (.string [116, 104, 101, 114, 101, 32, 105, 115, 32, 110, 111, 110, 101])]))
def laid_pasodoble_api_ErrState {H : Type} : DataW H := .iface "*errors.errorString" (.ptr (.agg [.lit (.string [110, 111, 116, 32, 110, 111, 119])]))
def laid_pasodoble_api_ErrTwice {H : Type} : DataW H := .iface "*errors.errorString" (.ptr (.agg [.lit (.string [116, 104, 101, 114, 101, 32, 97, 108, 114, 101, 97, 100, 121])]))
def laid_pasodoble_api_ErrName {H : Type} : DataW H := .iface "*errors.errorString" (.ptr (.agg [.lit (.string [110, 111, 32, 110, 97, 109, 101])]))
def laid_pasodoble_api_ErrCycle {H : Type} : DataW H := .iface "*errors.errorString" (.ptr (.agg [.lit (.string [101, 97, 99, 104, 32, 97, 104, 101, 97, 100, 32, 111, 102, 32, 116, 104, 101, 32, 111, 116, 104, 101, 114])]))
def laid_pasodoble_api_ErrStack {H : Type} : DataW H := .iface "*errors.errorString" (.ptr (.agg [.lit (.string [116, 111, 111, 32, 108, 105, 116, 116, 108, 101, 32, 111, 114, 32, 116, 111, 111, 32, 109, 117, 99, 104, 32, 111, 110, 32, 97, 32, 115, 116, 97, 99, 107])]))
def laid_pasodoble_api_ErrJump {H : Type} : DataW H := .iface "*errors.errorString" (.ptr (.agg [.lit (.string [97, 32, 106, 117, 109, 112, 32, 116, 111, 32, 110, 111, 119, 104, 101, 114, 101])]))
def laid_pasodoble_api_ErrOp {H : Type} : DataW H := .iface "*errors.errorString" (.ptr (.agg [.lit (.string [110, 111, 32, 111, 112, 101, 114, 97, 116, 105, 111, 110])]))
def laid_pasodoble_api_ErrFuel {H : Type} : DataW H := .iface "*errors.errorString" (.ptr (.agg [.lit (.string [110, 111, 32, 102, 117, 101, 108, 32, 108, 101, 102, 116])]))
def laid_pasodoble_api_ErrRange {H : Type} : DataW H := .iface "*errors.errorString" (.ptr (.agg [.lit (.string [97, 32, 102, 114, 97, 109, 101, 32, 116, 104, 97, 116, 32, 105, 115, 110, 39, 116, 32, 107, 101, 112, 116])]))
def laid_pasodoble_api_ErrDead {H : Type} : DataW H := .iface "*errors.errorString" (.ptr (.agg [.lit (.string [97, 110, 32, 101, 110, 116, 105, 116, 121, 32, 116, 104, 97, 116, 32, 105, 115, 110, 39, 116, 32, 116, 104, 101, 114, 101])]))
def laid_pasodoble_api_ErrWord {H : Type} : DataW H := .iface "*errors.errorString" (.ptr (.agg [.lit (.string [110, 111, 32, 119, 111, 114, 100])]))
def laid_pasodoble_parcel_names {H : Type} : DataW H := .agg [.lit (.string [115, 121, 110, 99]), .lit (.string [114, 101, 112, 108, 121]), .lit (.string [105, 110, 112, 117, 116, 115]), .lit (.string [114, 101, 112, 111, 114, 116]), .lit (.string [97, 108, 105, 118, 101]), .lit (.string [98, 121, 101])]

/-- 'pasodoblelaw02.StrandWrites': WHATEVER THE INPUT: true; the input reads as it did. -/
def strandWritesSpec : ChangeSpec := { name := "strandWrites", fn := fun _ => fun
  | [d1, d2] => { results := [.lit (.bool true)], args := [d1, d2] }
  | _ => none }
def strandWritesRow : OpenClaim := { program := "ytgdbpicelnoacaadoor", sum := "20b37f5bb569f333eff5c871c9b0a33d0e589cab4955b5a24ee68511cd45c099", func := "pasodoble/pasodoblelaw02.StrandWrites", spec := "strandWrites", inPlace := ["internal/reflectlite.TypeOf"], unfollowed := true, recurses := true, named := ["pasodoble/api.ErrForm", "pasodoble/api.ErrLong", "pasodoble/api.ErrArg", "pasodoble/api.ErrNil", "pasodoble/api.ErrSum", "pasodoble/api.ErrFull", "pasodoble/api.ErrNone", "pasodoble/api.ErrState", "pasodoble/api.ErrTwice", "pasodoble/api.ErrName", "pasodoble/api.ErrCycle", "pasodoble/api.ErrStack", "pasodoble/api.ErrJump", "pasodoble/api.ErrOp", "pasodoble/api.ErrFuel", "pasodoble/api.ErrRange", "pasodoble/api.ErrDead", "pasodoble/api.ErrWord"], apart := false, laid := [("pasodoble/api.ErrArg", laid_pasodoble_api_ErrArg), ("pasodoble/api.ErrNil", laid_pasodoble_api_ErrNil), ("pasodoble/api.ErrForm", laid_pasodoble_api_ErrForm), ("pasodoble/api.ErrLong", laid_pasodoble_api_ErrLong), ("pasodoble/api.ErrSum", laid_pasodoble_api_ErrSum), ("pasodoble/api.ErrFull", laid_pasodoble_api_ErrFull), ("pasodoble/api.ErrNone", laid_pasodoble_api_ErrNone), ("pasodoble/api.ErrState", laid_pasodoble_api_ErrState), ("pasodoble/api.ErrTwice", laid_pasodoble_api_ErrTwice), ("pasodoble/api.ErrName", laid_pasodoble_api_ErrName), ("pasodoble/api.ErrCycle", laid_pasodoble_api_ErrCycle), ("pasodoble/api.ErrStack", laid_pasodoble_api_ErrStack), ("pasodoble/api.ErrJump", laid_pasodoble_api_ErrJump), ("pasodoble/api.ErrOp", laid_pasodoble_api_ErrOp), ("pasodoble/api.ErrFuel", laid_pasodoble_api_ErrFuel), ("pasodoble/api.ErrRange", laid_pasodoble_api_ErrRange), ("pasodoble/api.ErrDead", laid_pasodoble_api_ErrDead), ("pasodoble/api.ErrWord", laid_pasodoble_api_ErrWord)] }
def StrandWritesSaid : Prop := strandWritesRow.holds Tryd.pinned (OpenSpec.ofChange strandWritesSpec)

/-- ITS FALSE NEIGHBOUR: 'it returns false'. Refute it at one input. -/
def strandWritesWrong : ChangeSpec := { name := "strandWrites", fn := fun _ => fun
  | [d1, d2] => { results := [.lit (.bool false)], args := [d1, d2] }
  | _ => none }
def StrandWritesWrongFalsely : Prop := strandWritesRow.holds Tryd.pinned (OpenSpec.ofChange strandWritesWrong)

/-- 'pasodoblelaw02.StrandReads': WHATEVER THE INPUT: true; the input reads as it did. -/
def strandReadsSpec : ChangeSpec := { name := "strandReads", fn := fun _ => fun
  | [d1, d2] => { results := [.lit (.bool true)], args := [d1, d2] }
  | _ => none }
def strandReadsRow : OpenClaim := { program := "ytgdbpicelnoacaadoor", sum := "20b37f5bb569f333eff5c871c9b0a33d0e589cab4955b5a24ee68511cd45c099", func := "pasodoble/pasodoblelaw02.StrandReads", spec := "strandReads", inPlace := ["internal/reflectlite.TypeOf"], unfollowed := true, recurses := true, named := ["pasodoble/api.ErrForm", "pasodoble/api.ErrLong", "pasodoble/api.ErrArg", "pasodoble/api.ErrNil"], apart := false, laid := [("pasodoble/api.ErrArg", laid_pasodoble_api_ErrArg), ("pasodoble/api.ErrNil", laid_pasodoble_api_ErrNil), ("pasodoble/api.ErrForm", laid_pasodoble_api_ErrForm), ("pasodoble/api.ErrLong", laid_pasodoble_api_ErrLong)] }
def StrandReadsSaid : Prop := strandReadsRow.holds Tryd.pinned (OpenSpec.ofChange strandReadsSpec)

/-- ITS FALSE NEIGHBOUR: 'it returns false'. Refute it at one input. -/
def strandReadsWrong : ChangeSpec := { name := "strandReads", fn := fun _ => fun
  | [d1, d2] => { results := [.lit (.bool false)], args := [d1, d2] }
  | _ => none }
def StrandReadsWrongFalsely : Prop := strandReadsRow.holds Tryd.pinned (OpenSpec.ofChange strandReadsWrong)

/-- 'pasodoblelaw02.StrandBack': WHATEVER THE INPUT: true; the input reads as it did. -/
def strandBackSpec : ChangeSpec := { name := "strandBack", fn := fun _ => fun
  | [d] => { results := [.lit (.bool true)], args := [d] }
  | _ => none }
def strandBackRow : OpenClaim := { program := "ytgdbpicelnoacaadoor", sum := "20b37f5bb569f333eff5c871c9b0a33d0e589cab4955b5a24ee68511cd45c099", func := "pasodoble/pasodoblelaw02.StrandBack", spec := "strandBack", inPlace := ["internal/reflectlite.TypeOf"], unfollowed := true, recurses := true, named := ["pasodoble/api.ErrForm", "pasodoble/api.ErrLong", "pasodoble/api.ErrArg", "pasodoble/api.ErrNil"], apart := false, laid := [("pasodoble/api.ErrArg", laid_pasodoble_api_ErrArg), ("pasodoble/api.ErrNil", laid_pasodoble_api_ErrNil), ("pasodoble/api.ErrForm", laid_pasodoble_api_ErrForm), ("pasodoble/api.ErrLong", laid_pasodoble_api_ErrLong)] }
def StrandBackSaid : Prop := strandBackRow.holds Tryd.pinned (OpenSpec.ofChange strandBackSpec)

/-- ITS FALSE NEIGHBOUR: 'it returns false'. Refute it at one input. -/
def strandBackWrong : ChangeSpec := { name := "strandBack", fn := fun _ => fun
  | [d] => { results := [.lit (.bool false)], args := [d] }
  | _ => none }
def StrandBackWrongFalsely : Prop := strandBackRow.holds Tryd.pinned (OpenSpec.ofChange strandBackWrong)

/-- 'pasodoblelaw02.StrandForms': WHATEVER THE INPUT: true; the input reads as it did. -/
def strandFormsSpec : ChangeSpec := { name := "strandForms", fn := fun _ => fun
  | [d1, d2] => { results := [.lit (.bool true)], args := [d1, d2] }
  | _ => none }
def strandFormsRow : OpenClaim := { program := "ytgdbpicelnoacaadoor", sum := "20b37f5bb569f333eff5c871c9b0a33d0e589cab4955b5a24ee68511cd45c099", func := "pasodoble/pasodoblelaw02.StrandForms", spec := "strandForms", inPlace := ["internal/reflectlite.TypeOf"], unfollowed := true, recurses := true, named := ["pasodoble/api.ErrForm", "pasodoble/api.ErrLong", "pasodoble/api.ErrArg", "pasodoble/api.ErrNil"], apart := false, laid := [("pasodoble/api.ErrArg", laid_pasodoble_api_ErrArg), ("pasodoble/api.ErrNil", laid_pasodoble_api_ErrNil), ("pasodoble/api.ErrForm", laid_pasodoble_api_ErrForm), ("pasodoble/api.ErrLong", laid_pasodoble_api_ErrLong)] }
def StrandFormsSaid : Prop := strandFormsRow.holds Tryd.pinned (OpenSpec.ofChange strandFormsSpec)

/-- ITS FALSE NEIGHBOUR: 'it returns false'. Refute it at one input. -/
def strandFormsWrong : ChangeSpec := { name := "strandForms", fn := fun _ => fun
  | [d1, d2] => { results := [.lit (.bool false)], args := [d1, d2] }
  | _ => none }
def StrandFormsWrongFalsely : Prop := strandFormsRow.holds Tryd.pinned (OpenSpec.ofChange strandFormsWrong)

/-- 'pasodoblelaw02.StrandCuts': WHATEVER THE INPUT: true; the input reads as it did. -/
def strandCutsSpec : ChangeSpec := { name := "strandCuts", fn := fun _ => fun
  | [d1, d2] => { results := [.lit (.bool true)], args := [d1, d2] }
  | _ => none }
def strandCutsRow : OpenClaim := { program := "ytgdbpicelnoacaadoor", sum := "20b37f5bb569f333eff5c871c9b0a33d0e589cab4955b5a24ee68511cd45c099", func := "pasodoble/pasodoblelaw02.StrandCuts", spec := "strandCuts", inPlace := ["internal/reflectlite.TypeOf"], unfollowed := true, recurses := true, named := ["pasodoble/api.ErrForm", "pasodoble/api.ErrLong", "pasodoble/api.ErrArg", "pasodoble/api.ErrNil"], apart := false, laid := [("pasodoble/api.ErrArg", laid_pasodoble_api_ErrArg), ("pasodoble/api.ErrNil", laid_pasodoble_api_ErrNil), ("pasodoble/api.ErrForm", laid_pasodoble_api_ErrForm), ("pasodoble/api.ErrLong", laid_pasodoble_api_ErrLong)] }
def StrandCutsSaid : Prop := strandCutsRow.holds Tryd.pinned (OpenSpec.ofChange strandCutsSpec)

/-- ITS FALSE NEIGHBOUR: 'it returns false'. Refute it at one input. -/
def strandCutsWrong : ChangeSpec := { name := "strandCuts", fn := fun _ => fun
  | [d1, d2] => { results := [.lit (.bool false)], args := [d1, d2] }
  | _ => none }
def StrandCutsWrongFalsely : Prop := strandCutsRow.holds Tryd.pinned (OpenSpec.ofChange strandCutsWrong)

/-- 'pasodoblelaw02.StrandBounds': WHATEVER THE INPUT: true; the input reads as it did. -/
def strandBoundsSpec : ChangeSpec := { name := "strandBounds", fn := fun _ => fun
  | [d] => { results := [.lit (.bool true)], args := [d] }
  | _ => none }
def strandBoundsRow : OpenClaim := { program := "ytgdbpicelnoacaadoor", sum := "20b37f5bb569f333eff5c871c9b0a33d0e589cab4955b5a24ee68511cd45c099", func := "pasodoble/pasodoblelaw02.StrandBounds", spec := "strandBounds", inPlace := ["internal/reflectlite.TypeOf"], unfollowed := true, recurses := true, named := ["pasodoble/api.ErrArg", "pasodoble/api.ErrLong", "pasodoble/api.ErrNil", "pasodoble/api.ErrForm"], apart := false, laid := [("pasodoble/api.ErrArg", laid_pasodoble_api_ErrArg), ("pasodoble/api.ErrNil", laid_pasodoble_api_ErrNil), ("pasodoble/api.ErrForm", laid_pasodoble_api_ErrForm), ("pasodoble/api.ErrLong", laid_pasodoble_api_ErrLong)] }
def StrandBoundsSaid : Prop := strandBoundsRow.holds Tryd.pinned (OpenSpec.ofChange strandBoundsSpec)

/-- ITS FALSE NEIGHBOUR: 'it returns false'. Refute it at one input. -/
def strandBoundsWrong : ChangeSpec := { name := "strandBounds", fn := fun _ => fun
  | [d] => { results := [.lit (.bool false)], args := [d] }
  | _ => none }
def StrandBoundsWrongFalsely : Prop := strandBoundsRow.holds Tryd.pinned (OpenSpec.ofChange strandBoundsWrong)

/-- 'pasodoblelaw24.ParcelBack': WHATEVER THE INPUT: true; the input reads as it did. -/
def parcelBackSpec : ChangeSpec := { name := "parcelBack", fn := fun _ => fun
  | [d1, d2] => { results := [.lit (.bool true)], args := [d1, d2] }
  | _ => none }
def parcelBackRow : OpenClaim := { program := "ytgdbpicelnoacaadoor", sum := "20b37f5bb569f333eff5c871c9b0a33d0e589cab4955b5a24ee68511cd45c099", func := "pasodoble/pasodoblelaw24.ParcelBack", spec := "parcelBack", inPlace := ["internal/reflectlite.TypeOf"], unfollowed := true, recurses := true, named := ["pasodoble/api.ErrSum", "pasodoble/api.ErrArg", "pasodoble/api.ErrLong", "pasodoble/api.ErrNil", "pasodoble/api.ErrForm"], apart := false, laid := [("pasodoble/api.ErrArg", laid_pasodoble_api_ErrArg), ("pasodoble/api.ErrNil", laid_pasodoble_api_ErrNil), ("pasodoble/api.ErrForm", laid_pasodoble_api_ErrForm), ("pasodoble/api.ErrLong", laid_pasodoble_api_ErrLong), ("pasodoble/api.ErrSum", laid_pasodoble_api_ErrSum)] }
def ParcelBackSaid : Prop := parcelBackRow.holds Tryd.pinned (OpenSpec.ofChange parcelBackSpec)

/-- ITS FALSE NEIGHBOUR: 'it returns false'. Refute it at one input. -/
def parcelBackWrong : ChangeSpec := { name := "parcelBack", fn := fun _ => fun
  | [d1, d2] => { results := [.lit (.bool false)], args := [d1, d2] }
  | _ => none }
def ParcelBackWrongFalsely : Prop := parcelBackRow.holds Tryd.pinned (OpenSpec.ofChange parcelBackWrong)

/-- 'pasodoblelaw24.ParcelTells': WHATEVER THE INPUT: true; the input reads as it did. -/
def parcelTellsSpec : ChangeSpec := { name := "parcelTells", fn := fun _ => fun
  | [d1, d2, d3] => { results := [.lit (.bool true)], args := [d1, d2, d3] }
  | _ => none }
def parcelTellsRow : OpenClaim := { program := "ytgdbpicelnoacaadoor", sum := "20b37f5bb569f333eff5c871c9b0a33d0e589cab4955b5a24ee68511cd45c099", func := "pasodoble/pasodoblelaw24.ParcelTells", spec := "parcelTells", inPlace := ["internal/reflectlite.TypeOf"], unfollowed := true, recurses := true, named := ["pasodoble/api.ErrSum", "pasodoble/api.ErrArg", "pasodoble/api.ErrLong", "pasodoble/api.ErrNil", "pasodoble/api.ErrForm"], apart := false, laid := [("pasodoble/api.ErrArg", laid_pasodoble_api_ErrArg), ("pasodoble/api.ErrNil", laid_pasodoble_api_ErrNil), ("pasodoble/api.ErrForm", laid_pasodoble_api_ErrForm), ("pasodoble/api.ErrLong", laid_pasodoble_api_ErrLong), ("pasodoble/api.ErrSum", laid_pasodoble_api_ErrSum)] }
def ParcelTellsSaid : Prop := parcelTellsRow.holds Tryd.pinned (OpenSpec.ofChange parcelTellsSpec)

/-- ITS FALSE NEIGHBOUR: 'it returns false'. Refute it at one input. -/
def parcelTellsWrong : ChangeSpec := { name := "parcelTells", fn := fun _ => fun
  | [d1, d2, d3] => { results := [.lit (.bool false)], args := [d1, d2, d3] }
  | _ => none }
def ParcelTellsWrongFalsely : Prop := parcelTellsRow.holds Tryd.pinned (OpenSpec.ofChange parcelTellsWrong)

/-- 'pasodoblelaw24.ParcelShort': WHATEVER THE INPUT: true; the input reads as it did. -/
def parcelShortSpec : ChangeSpec := { name := "parcelShort", fn := fun _ => fun
  | [d1, d2, d3, d4] => { results := [.lit (.bool true)], args := [d1, d2, d3, d4] }
  | _ => none }
def parcelShortRow : OpenClaim := { program := "ytgdbpicelnoacaadoor", sum := "20b37f5bb569f333eff5c871c9b0a33d0e589cab4955b5a24ee68511cd45c099", func := "pasodoble/pasodoblelaw24.ParcelShort", spec := "parcelShort", inPlace := ["internal/reflectlite.TypeOf"], unfollowed := true, recurses := true, named := ["pasodoble/api.ErrSum", "pasodoble/api.ErrArg", "pasodoble/api.ErrLong", "pasodoble/api.ErrNil", "pasodoble/api.ErrForm"], apart := false, laid := [("pasodoble/api.ErrArg", laid_pasodoble_api_ErrArg), ("pasodoble/api.ErrNil", laid_pasodoble_api_ErrNil), ("pasodoble/api.ErrForm", laid_pasodoble_api_ErrForm), ("pasodoble/api.ErrLong", laid_pasodoble_api_ErrLong), ("pasodoble/api.ErrSum", laid_pasodoble_api_ErrSum)] }
def ParcelShortSaid : Prop := parcelShortRow.holds Tryd.pinned (OpenSpec.ofChange parcelShortSpec)

/-- ITS FALSE NEIGHBOUR: 'it returns false'. Refute it at one input. -/
def parcelShortWrong : ChangeSpec := { name := "parcelShort", fn := fun _ => fun
  | [d1, d2, d3, d4] => { results := [.lit (.bool false)], args := [d1, d2, d3, d4] }
  | _ => none }
def ParcelShortWrongFalsely : Prop := parcelShortRow.holds Tryd.pinned (OpenSpec.ofChange parcelShortWrong)

/-- 'pasodoblelaw24.ParcelWrites': WHATEVER THE INPUT: true; the input reads as it did. -/
def parcelWritesSpec : ChangeSpec := { name := "parcelWrites", fn := fun _ => fun
  | [d1, d2, d3] => { results := [.lit (.bool true)], args := [d1, d2, d3] }
  | _ => none }
def parcelWritesRow : OpenClaim := { program := "ytgdbpicelnoacaadoor", sum := "20b37f5bb569f333eff5c871c9b0a33d0e589cab4955b5a24ee68511cd45c099", func := "pasodoble/pasodoblelaw24.ParcelWrites", spec := "parcelWrites", inPlace := ["internal/reflectlite.TypeOf"], unfollowed := true, recurses := true, named := ["pasodoble/api.ErrArg", "pasodoble/api.ErrSum", "pasodoble/api.ErrLong", "pasodoble/api.ErrNil", "pasodoble/api.ErrForm", "pasodoble/parcel.names"], apart := false, laid := [("pasodoble/api.ErrArg", laid_pasodoble_api_ErrArg), ("pasodoble/api.ErrNil", laid_pasodoble_api_ErrNil), ("pasodoble/api.ErrForm", laid_pasodoble_api_ErrForm), ("pasodoble/api.ErrLong", laid_pasodoble_api_ErrLong), ("pasodoble/api.ErrSum", laid_pasodoble_api_ErrSum), ("pasodoble/parcel.names", laid_pasodoble_parcel_names)] }
def ParcelWritesSaid : Prop := parcelWritesRow.holds Tryd.pinned (OpenSpec.ofChange parcelWritesSpec)

/-- ITS FALSE NEIGHBOUR: 'it returns false'. Refute it at one input. -/
def parcelWritesWrong : ChangeSpec := { name := "parcelWrites", fn := fun _ => fun
  | [d1, d2, d3] => { results := [.lit (.bool false)], args := [d1, d2, d3] }
  | _ => none }
def ParcelWritesWrongFalsely : Prop := parcelWritesRow.holds Tryd.pinned (OpenSpec.ofChange parcelWritesWrong)

/-- 'pasodoblelaw24.ParcelReads': WHATEVER THE INPUT: true; the input reads as it did. -/
def parcelReadsSpec : ChangeSpec := { name := "parcelReads", fn := fun _ => fun
  | [d] => { results := [.lit (.bool true)], args := [d] }
  | _ => none }
def parcelReadsRow : OpenClaim := { program := "ytgdbpicelnoacaadoor", sum := "20b37f5bb569f333eff5c871c9b0a33d0e589cab4955b5a24ee68511cd45c099", func := "pasodoble/pasodoblelaw24.ParcelReads", spec := "parcelReads", inPlace := ["internal/reflectlite.TypeOf"], unfollowed := true, recurses := true, named := ["pasodoble/api.ErrSum", "pasodoble/api.ErrArg", "pasodoble/api.ErrLong", "pasodoble/api.ErrNil", "pasodoble/api.ErrForm", "pasodoble/api.ErrFull", "pasodoble/api.ErrNone", "pasodoble/api.ErrState", "pasodoble/api.ErrTwice", "pasodoble/api.ErrName", "pasodoble/api.ErrCycle", "pasodoble/api.ErrStack", "pasodoble/api.ErrJump", "pasodoble/api.ErrOp", "pasodoble/api.ErrFuel", "pasodoble/api.ErrRange", "pasodoble/api.ErrDead", "pasodoble/api.ErrWord"], apart := false, laid := [("pasodoble/api.ErrArg", laid_pasodoble_api_ErrArg), ("pasodoble/api.ErrNil", laid_pasodoble_api_ErrNil), ("pasodoble/api.ErrForm", laid_pasodoble_api_ErrForm), ("pasodoble/api.ErrLong", laid_pasodoble_api_ErrLong), ("pasodoble/api.ErrSum", laid_pasodoble_api_ErrSum), ("pasodoble/api.ErrFull", laid_pasodoble_api_ErrFull), ("pasodoble/api.ErrNone", laid_pasodoble_api_ErrNone), ("pasodoble/api.ErrState", laid_pasodoble_api_ErrState), ("pasodoble/api.ErrTwice", laid_pasodoble_api_ErrTwice), ("pasodoble/api.ErrName", laid_pasodoble_api_ErrName), ("pasodoble/api.ErrCycle", laid_pasodoble_api_ErrCycle), ("pasodoble/api.ErrStack", laid_pasodoble_api_ErrStack), ("pasodoble/api.ErrJump", laid_pasodoble_api_ErrJump), ("pasodoble/api.ErrOp", laid_pasodoble_api_ErrOp), ("pasodoble/api.ErrFuel", laid_pasodoble_api_ErrFuel), ("pasodoble/api.ErrRange", laid_pasodoble_api_ErrRange), ("pasodoble/api.ErrDead", laid_pasodoble_api_ErrDead), ("pasodoble/api.ErrWord", laid_pasodoble_api_ErrWord)] }
def ParcelReadsSaid : Prop := parcelReadsRow.holds Tryd.pinned (OpenSpec.ofChange parcelReadsSpec)

/-- ITS FALSE NEIGHBOUR: 'it returns false'. Refute it at one input. -/
def parcelReadsWrong : ChangeSpec := { name := "parcelReads", fn := fun _ => fun
  | [d] => { results := [.lit (.bool false)], args := [d] }
  | _ => none }
def ParcelReadsWrongFalsely : Prop := parcelReadsRow.holds Tryd.pinned (OpenSpec.ofChange parcelReadsWrong)

/- THE SECOND FORM. 'bulk': how many values and letters a reading holds, each counted each time it is reached (what is shared counts as often as it is met; a slice's spare places count too). A statement '..UptoSaid' is the law's where the arguments, and the package variables that the reading takes, are together of bulk at most 1048576: NARROWER than '..Said'. Prove '..Said' where nothing that the law and all that it calls make is longer than what came in: it says more and counts as full. Else prove '..UptoSaid'. A law counts once. -/
mutual
def uptoBulk {H : Type} : DataW H → Nat
  | .lit (.string bytes) => bytes.length + 1
  | .lit _ => 1
  | .nil => 1
  | .ptr d => uptoBulk d + 1
  | .slice elems spare => uptoBulkAll elems + uptoBulkAll spare + 1
  | .agg parts => uptoBulkAll parts + 1
  | .iface _ d => uptoBulk d + 1
  | .map entries => uptoBulkEntries entries + 1
  | .held _ => 1
def uptoBulkAll {H : Type} : List (DataW H) → Nat
  | [] => 0
  | d :: r => uptoBulk d + uptoBulkAll r
def uptoBulkEntries {H : Type} : List (Lit × DataW H) → Nat
  | [] => 0
  | x :: r => uptoBulkEntry x + uptoBulkEntries r
def uptoBulkEntry {H : Type} : Lit × DataW H → Nat
  | (.string bytes, d) => bytes.length + uptoBulk d + 1
  | (_, d) => uptoBulk d + 1
 end
def uptoSmall : (H : Type) → List (DataW H) → Bool := fun _ ds => decide (uptoBulkAll ds ≤ 1048576)
def OpenSpec.upto (s : _root_.Go.ChangeSpec) : _root_.Go.OpenSpec := { _root_.Go.OpenSpec.ofChange s with cond := some uptoSmall }

/-- 'pasodoblelaw02.StrandWrites', WHERE WHAT IT READS IS OF BULK AT MOST 1048576: true; the input reads as it did. -/
def strandWritesUptoRow : OpenClaim := { program := "ytgdbpicelnoacaadoor", sum := "20b37f5bb569f333eff5c871c9b0a33d0e589cab4955b5a24ee68511cd45c099", func := "pasodoble/pasodoblelaw02.StrandWrites", spec := "strandWrites", inPlace := ["internal/reflectlite.TypeOf"], unfollowed := true, recurses := true, named := ["pasodoble/api.ErrForm", "pasodoble/api.ErrLong", "pasodoble/api.ErrArg", "pasodoble/api.ErrNil", "pasodoble/api.ErrSum", "pasodoble/api.ErrFull", "pasodoble/api.ErrNone", "pasodoble/api.ErrState", "pasodoble/api.ErrTwice", "pasodoble/api.ErrName", "pasodoble/api.ErrCycle", "pasodoble/api.ErrStack", "pasodoble/api.ErrJump", "pasodoble/api.ErrOp", "pasodoble/api.ErrFuel", "pasodoble/api.ErrRange", "pasodoble/api.ErrDead", "pasodoble/api.ErrWord"], apart := false, laid := [("pasodoble/api.ErrArg", laid_pasodoble_api_ErrArg), ("pasodoble/api.ErrNil", laid_pasodoble_api_ErrNil), ("pasodoble/api.ErrForm", laid_pasodoble_api_ErrForm), ("pasodoble/api.ErrLong", laid_pasodoble_api_ErrLong), ("pasodoble/api.ErrSum", laid_pasodoble_api_ErrSum), ("pasodoble/api.ErrFull", laid_pasodoble_api_ErrFull), ("pasodoble/api.ErrNone", laid_pasodoble_api_ErrNone), ("pasodoble/api.ErrState", laid_pasodoble_api_ErrState), ("pasodoble/api.ErrTwice", laid_pasodoble_api_ErrTwice), ("pasodoble/api.ErrName", laid_pasodoble_api_ErrName), ("pasodoble/api.ErrCycle", laid_pasodoble_api_ErrCycle), ("pasodoble/api.ErrStack", laid_pasodoble_api_ErrStack), ("pasodoble/api.ErrJump", laid_pasodoble_api_ErrJump), ("pasodoble/api.ErrOp", laid_pasodoble_api_ErrOp), ("pasodoble/api.ErrFuel", laid_pasodoble_api_ErrFuel), ("pasodoble/api.ErrRange", laid_pasodoble_api_ErrRange), ("pasodoble/api.ErrDead", laid_pasodoble_api_ErrDead), ("pasodoble/api.ErrWord", laid_pasodoble_api_ErrWord)], narrowed := true }
def StrandWritesUptoSaid : Prop := strandWritesUptoRow.holds Tryd.pinned (OpenSpec.upto strandWritesSpec)

/-- 'pasodoblelaw02.StrandReads', WHERE WHAT IT READS IS OF BULK AT MOST 1048576: true; the input reads as it did. -/
def strandReadsUptoRow : OpenClaim := { program := "ytgdbpicelnoacaadoor", sum := "20b37f5bb569f333eff5c871c9b0a33d0e589cab4955b5a24ee68511cd45c099", func := "pasodoble/pasodoblelaw02.StrandReads", spec := "strandReads", inPlace := ["internal/reflectlite.TypeOf"], unfollowed := true, recurses := true, named := ["pasodoble/api.ErrForm", "pasodoble/api.ErrLong", "pasodoble/api.ErrArg", "pasodoble/api.ErrNil"], apart := false, laid := [("pasodoble/api.ErrArg", laid_pasodoble_api_ErrArg), ("pasodoble/api.ErrNil", laid_pasodoble_api_ErrNil), ("pasodoble/api.ErrForm", laid_pasodoble_api_ErrForm), ("pasodoble/api.ErrLong", laid_pasodoble_api_ErrLong)], narrowed := true }
def StrandReadsUptoSaid : Prop := strandReadsUptoRow.holds Tryd.pinned (OpenSpec.upto strandReadsSpec)

/-- 'pasodoblelaw02.StrandBack', WHERE WHAT IT READS IS OF BULK AT MOST 1048576: true; the input reads as it did. -/
def strandBackUptoRow : OpenClaim := { program := "ytgdbpicelnoacaadoor", sum := "20b37f5bb569f333eff5c871c9b0a33d0e589cab4955b5a24ee68511cd45c099", func := "pasodoble/pasodoblelaw02.StrandBack", spec := "strandBack", inPlace := ["internal/reflectlite.TypeOf"], unfollowed := true, recurses := true, named := ["pasodoble/api.ErrForm", "pasodoble/api.ErrLong", "pasodoble/api.ErrArg", "pasodoble/api.ErrNil"], apart := false, laid := [("pasodoble/api.ErrArg", laid_pasodoble_api_ErrArg), ("pasodoble/api.ErrNil", laid_pasodoble_api_ErrNil), ("pasodoble/api.ErrForm", laid_pasodoble_api_ErrForm), ("pasodoble/api.ErrLong", laid_pasodoble_api_ErrLong)], narrowed := true }
def StrandBackUptoSaid : Prop := strandBackUptoRow.holds Tryd.pinned (OpenSpec.upto strandBackSpec)

/-- 'pasodoblelaw02.StrandForms', WHERE WHAT IT READS IS OF BULK AT MOST 1048576: true; the input reads as it did. -/
def strandFormsUptoRow : OpenClaim := { program := "ytgdbpicelnoacaadoor", sum := "20b37f5bb569f333eff5c871c9b0a33d0e589cab4955b5a24ee68511cd45c099", func := "pasodoble/pasodoblelaw02.StrandForms", spec := "strandForms", inPlace := ["internal/reflectlite.TypeOf"], unfollowed := true, recurses := true, named := ["pasodoble/api.ErrForm", "pasodoble/api.ErrLong", "pasodoble/api.ErrArg", "pasodoble/api.ErrNil"], apart := false, laid := [("pasodoble/api.ErrArg", laid_pasodoble_api_ErrArg), ("pasodoble/api.ErrNil", laid_pasodoble_api_ErrNil), ("pasodoble/api.ErrForm", laid_pasodoble_api_ErrForm), ("pasodoble/api.ErrLong", laid_pasodoble_api_ErrLong)], narrowed := true }
def StrandFormsUptoSaid : Prop := strandFormsUptoRow.holds Tryd.pinned (OpenSpec.upto strandFormsSpec)

/-- 'pasodoblelaw02.StrandCuts', WHERE WHAT IT READS IS OF BULK AT MOST 1048576: true; the input reads as it did. -/
def strandCutsUptoRow : OpenClaim := { program := "ytgdbpicelnoacaadoor", sum := "20b37f5bb569f333eff5c871c9b0a33d0e589cab4955b5a24ee68511cd45c099", func := "pasodoble/pasodoblelaw02.StrandCuts", spec := "strandCuts", inPlace := ["internal/reflectlite.TypeOf"], unfollowed := true, recurses := true, named := ["pasodoble/api.ErrForm", "pasodoble/api.ErrLong", "pasodoble/api.ErrArg", "pasodoble/api.ErrNil"], apart := false, laid := [("pasodoble/api.ErrArg", laid_pasodoble_api_ErrArg), ("pasodoble/api.ErrNil", laid_pasodoble_api_ErrNil), ("pasodoble/api.ErrForm", laid_pasodoble_api_ErrForm), ("pasodoble/api.ErrLong", laid_pasodoble_api_ErrLong)], narrowed := true }
def StrandCutsUptoSaid : Prop := strandCutsUptoRow.holds Tryd.pinned (OpenSpec.upto strandCutsSpec)

/-- 'pasodoblelaw02.StrandBounds', WHERE WHAT IT READS IS OF BULK AT MOST 1048576: true; the input reads as it did. -/
def strandBoundsUptoRow : OpenClaim := { program := "ytgdbpicelnoacaadoor", sum := "20b37f5bb569f333eff5c871c9b0a33d0e589cab4955b5a24ee68511cd45c099", func := "pasodoble/pasodoblelaw02.StrandBounds", spec := "strandBounds", inPlace := ["internal/reflectlite.TypeOf"], unfollowed := true, recurses := true, named := ["pasodoble/api.ErrArg", "pasodoble/api.ErrLong", "pasodoble/api.ErrNil", "pasodoble/api.ErrForm"], apart := false, laid := [("pasodoble/api.ErrArg", laid_pasodoble_api_ErrArg), ("pasodoble/api.ErrNil", laid_pasodoble_api_ErrNil), ("pasodoble/api.ErrForm", laid_pasodoble_api_ErrForm), ("pasodoble/api.ErrLong", laid_pasodoble_api_ErrLong)], narrowed := true }
def StrandBoundsUptoSaid : Prop := strandBoundsUptoRow.holds Tryd.pinned (OpenSpec.upto strandBoundsSpec)

/-- 'pasodoblelaw24.ParcelBack', WHERE WHAT IT READS IS OF BULK AT MOST 1048576: true; the input reads as it did. -/
def parcelBackUptoRow : OpenClaim := { program := "ytgdbpicelnoacaadoor", sum := "20b37f5bb569f333eff5c871c9b0a33d0e589cab4955b5a24ee68511cd45c099", func := "pasodoble/pasodoblelaw24.ParcelBack", spec := "parcelBack", inPlace := ["internal/reflectlite.TypeOf"], unfollowed := true, recurses := true, named := ["pasodoble/api.ErrSum", "pasodoble/api.ErrArg", "pasodoble/api.ErrLong", "pasodoble/api.ErrNil", "pasodoble/api.ErrForm"], apart := false, laid := [("pasodoble/api.ErrArg", laid_pasodoble_api_ErrArg), ("pasodoble/api.ErrNil", laid_pasodoble_api_ErrNil), ("pasodoble/api.ErrForm", laid_pasodoble_api_ErrForm), ("pasodoble/api.ErrLong", laid_pasodoble_api_ErrLong), ("pasodoble/api.ErrSum", laid_pasodoble_api_ErrSum)], narrowed := true }
def ParcelBackUptoSaid : Prop := parcelBackUptoRow.holds Tryd.pinned (OpenSpec.upto parcelBackSpec)

/-- 'pasodoblelaw24.ParcelTells', WHERE WHAT IT READS IS OF BULK AT MOST 1048576: true; the input reads as it did. -/
def parcelTellsUptoRow : OpenClaim := { program := "ytgdbpicelnoacaadoor", sum := "20b37f5bb569f333eff5c871c9b0a33d0e589cab4955b5a24ee68511cd45c099", func := "pasodoble/pasodoblelaw24.ParcelTells", spec := "parcelTells", inPlace := ["internal/reflectlite.TypeOf"], unfollowed := true, recurses := true, named := ["pasodoble/api.ErrSum", "pasodoble/api.ErrArg", "pasodoble/api.ErrLong", "pasodoble/api.ErrNil", "pasodoble/api.ErrForm"], apart := false, laid := [("pasodoble/api.ErrArg", laid_pasodoble_api_ErrArg), ("pasodoble/api.ErrNil", laid_pasodoble_api_ErrNil), ("pasodoble/api.ErrForm", laid_pasodoble_api_ErrForm), ("pasodoble/api.ErrLong", laid_pasodoble_api_ErrLong), ("pasodoble/api.ErrSum", laid_pasodoble_api_ErrSum)], narrowed := true }
def ParcelTellsUptoSaid : Prop := parcelTellsUptoRow.holds Tryd.pinned (OpenSpec.upto parcelTellsSpec)

/-- 'pasodoblelaw24.ParcelShort', WHERE WHAT IT READS IS OF BULK AT MOST 1048576: true; the input reads as it did. -/
def parcelShortUptoRow : OpenClaim := { program := "ytgdbpicelnoacaadoor", sum := "20b37f5bb569f333eff5c871c9b0a33d0e589cab4955b5a24ee68511cd45c099", func := "pasodoble/pasodoblelaw24.ParcelShort", spec := "parcelShort", inPlace := ["internal/reflectlite.TypeOf"], unfollowed := true, recurses := true, named := ["pasodoble/api.ErrSum", "pasodoble/api.ErrArg", "pasodoble/api.ErrLong", "pasodoble/api.ErrNil", "pasodoble/api.ErrForm"], apart := false, laid := [("pasodoble/api.ErrArg", laid_pasodoble_api_ErrArg), ("pasodoble/api.ErrNil", laid_pasodoble_api_ErrNil), ("pasodoble/api.ErrForm", laid_pasodoble_api_ErrForm), ("pasodoble/api.ErrLong", laid_pasodoble_api_ErrLong), ("pasodoble/api.ErrSum", laid_pasodoble_api_ErrSum)], narrowed := true }
def ParcelShortUptoSaid : Prop := parcelShortUptoRow.holds Tryd.pinned (OpenSpec.upto parcelShortSpec)

/-- 'pasodoblelaw24.ParcelWrites', WHERE WHAT IT READS IS OF BULK AT MOST 1048576: true; the input reads as it did. -/
def parcelWritesUptoRow : OpenClaim := { program := "ytgdbpicelnoacaadoor", sum := "20b37f5bb569f333eff5c871c9b0a33d0e589cab4955b5a24ee68511cd45c099", func := "pasodoble/pasodoblelaw24.ParcelWrites", spec := "parcelWrites", inPlace := ["internal/reflectlite.TypeOf"], unfollowed := true, recurses := true, named := ["pasodoble/api.ErrArg", "pasodoble/api.ErrSum", "pasodoble/api.ErrLong", "pasodoble/api.ErrNil", "pasodoble/api.ErrForm", "pasodoble/parcel.names"], apart := false, laid := [("pasodoble/api.ErrArg", laid_pasodoble_api_ErrArg), ("pasodoble/api.ErrNil", laid_pasodoble_api_ErrNil), ("pasodoble/api.ErrForm", laid_pasodoble_api_ErrForm), ("pasodoble/api.ErrLong", laid_pasodoble_api_ErrLong), ("pasodoble/api.ErrSum", laid_pasodoble_api_ErrSum), ("pasodoble/parcel.names", laid_pasodoble_parcel_names)], narrowed := true }
def ParcelWritesUptoSaid : Prop := parcelWritesUptoRow.holds Tryd.pinned (OpenSpec.upto parcelWritesSpec)

/-- 'pasodoblelaw24.ParcelReads', WHERE WHAT IT READS IS OF BULK AT MOST 1048576: true; the input reads as it did. -/
def parcelReadsUptoRow : OpenClaim := { program := "ytgdbpicelnoacaadoor", sum := "20b37f5bb569f333eff5c871c9b0a33d0e589cab4955b5a24ee68511cd45c099", func := "pasodoble/pasodoblelaw24.ParcelReads", spec := "parcelReads", inPlace := ["internal/reflectlite.TypeOf"], unfollowed := true, recurses := true, named := ["pasodoble/api.ErrSum", "pasodoble/api.ErrArg", "pasodoble/api.ErrLong", "pasodoble/api.ErrNil", "pasodoble/api.ErrForm", "pasodoble/api.ErrFull", "pasodoble/api.ErrNone", "pasodoble/api.ErrState", "pasodoble/api.ErrTwice", "pasodoble/api.ErrName", "pasodoble/api.ErrCycle", "pasodoble/api.ErrStack", "pasodoble/api.ErrJump", "pasodoble/api.ErrOp", "pasodoble/api.ErrFuel", "pasodoble/api.ErrRange", "pasodoble/api.ErrDead", "pasodoble/api.ErrWord"], apart := false, laid := [("pasodoble/api.ErrArg", laid_pasodoble_api_ErrArg), ("pasodoble/api.ErrNil", laid_pasodoble_api_ErrNil), ("pasodoble/api.ErrForm", laid_pasodoble_api_ErrForm), ("pasodoble/api.ErrLong", laid_pasodoble_api_ErrLong), ("pasodoble/api.ErrSum", laid_pasodoble_api_ErrSum), ("pasodoble/api.ErrFull", laid_pasodoble_api_ErrFull), ("pasodoble/api.ErrNone", laid_pasodoble_api_ErrNone), ("pasodoble/api.ErrState", laid_pasodoble_api_ErrState), ("pasodoble/api.ErrTwice", laid_pasodoble_api_ErrTwice), ("pasodoble/api.ErrName", laid_pasodoble_api_ErrName), ("pasodoble/api.ErrCycle", laid_pasodoble_api_ErrCycle), ("pasodoble/api.ErrStack", laid_pasodoble_api_ErrStack), ("pasodoble/api.ErrJump", laid_pasodoble_api_ErrJump), ("pasodoble/api.ErrOp", laid_pasodoble_api_ErrOp), ("pasodoble/api.ErrFuel", laid_pasodoble_api_ErrFuel), ("pasodoble/api.ErrRange", laid_pasodoble_api_ErrRange), ("pasodoble/api.ErrDead", laid_pasodoble_api_ErrDead), ("pasodoble/api.ErrWord", laid_pasodoble_api_ErrWord)], narrowed := true }
def ParcelReadsUptoSaid : Prop := parcelReadsUptoRow.holds Tryd.pinned (OpenSpec.upto parcelReadsSpec)

end Rows
end Go.Proofs.YtgdbpicelnoacaaDoor
