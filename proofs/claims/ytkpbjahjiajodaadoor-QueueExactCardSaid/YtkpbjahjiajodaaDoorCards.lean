/-
  DERIVED. GIVEN WITH THE SEED: THE CARDS: each row of YtkpbjahjiajodaaDoorRows.lean that lists a variable, with what it lists TIED to the program's text (the seventh form; the later family's looks); each row that meets fmt, with fmt's text TOLD by the authors' own Lean function (tested against real Go, not proved from fmt's source: count such statements apart). THE CARD IS WHAT COUNTS. Prove the row's statement (the work); the ties are given (YtkpbjahjiajodaaDoorTie.lean); close each card by the builder's one call (the guide's Derived/Test/ToyasCard.lean, 'card_holds'). Laid BY PROGRAM, IN A SANDBOX (cutbox-door.mjs). By AI agents, Wed Nov 11 2026. No macro, syntax, notation, axiom, sorry.
-/
import Derived.Test.YtkpbjahjiajodaaDoorRows
import GoSem.ClaimSeven
namespace Go.Proofs.YtkpbjahjiajodaaDoor
namespace Rows

/-- THE TIED CARD OF 'pasodoblelaw23.QueueGets'. -/
def queueGetsCard : Claim7 := { stood := { row := queueGetsRow, standIns := [], harness := (true, "cd5720e1c5b088afa195f588dae5f8d317a7d47fa3c6ea7c28d8533f655d1ad8"), looks := true }, kinds := [], alts := [], laidByText := true, laidKinds := [.sentinel, .sentinel, .sentinel, .sentinel, .sentinel], laidTests := true, laidLooks := .later }
def QueueGetsCardSaid : Prop := Claim7.holds Tryd.pinned (.plain (OpenSpec.ofChange queueGetsSpec)) queueGetsCard

/-- THE TIED CARD OF 'pasodoblelaw23.QueueTells'. -/
def queueTellsCard : Claim7 := { stood := { row := queueTellsRow, standIns := [], harness := (true, "cd5720e1c5b088afa195f588dae5f8d317a7d47fa3c6ea7c28d8533f655d1ad8"), looks := true }, kinds := [], alts := [], laidByText := true, laidKinds := [.sentinel, .sentinel, .sentinel, .sentinel, .sentinel], laidTests := true, laidLooks := .later }
def QueueTellsCardSaid : Prop := Claim7.holds Tryd.pinned (.plain (OpenSpec.ofChange queueTellsSpec)) queueTellsCard

/-- THE TIED CARD OF 'pasodoblelaw23.QueueForgets'. -/
def queueForgetsCard : Claim7 := { stood := { row := queueForgetsRow, standIns := [], harness := (true, "cd5720e1c5b088afa195f588dae5f8d317a7d47fa3c6ea7c28d8533f655d1ad8"), looks := true }, kinds := [], alts := [], laidByText := true, laidKinds := [.sentinel, .sentinel, .sentinel, .sentinel, .sentinel], laidTests := true, laidLooks := .later }
def QueueForgetsCardSaid : Prop := Claim7.holds Tryd.pinned (.plain (OpenSpec.ofChange queueForgetsSpec)) queueForgetsCard

/-- THE TIED CARD OF 'pasodoblelaw25.LineKeeps'. -/
def lineKeepsCard : Claim7 := { stood := { row := lineKeepsRow, standIns := [], harness := (true, "cd5720e1c5b088afa195f588dae5f8d317a7d47fa3c6ea7c28d8533f655d1ad8"), looks := true }, kinds := [], alts := [], laidByText := true, laidKinds := [.sentinel, .sentinel, .sentinel, .sentinel, .sentinel], laidTests := true, laidLooks := .later }
def LineKeepsCardSaid : Prop := Claim7.holds Tryd.pinned (.plain (OpenSpec.ofChange lineKeepsSpec)) lineKeepsCard

/-- THE TIED CARD OF 'pasodoblelaw25.LineCounts'. -/
def lineCountsCard : Claim7 := { stood := { row := lineCountsRow, standIns := [], harness := (true, "cd5720e1c5b088afa195f588dae5f8d317a7d47fa3c6ea7c28d8533f655d1ad8"), looks := true }, kinds := [], alts := [], laidByText := true, laidKinds := [.sentinel, .sentinel, .sentinel, .sentinel, .sentinel], laidTests := true, laidLooks := .later }
def LineCountsCardSaid : Prop := Claim7.holds Tryd.pinned (.plain (OpenSpec.ofChange lineCountsSpec)) lineCountsCard

/-- THE TIED CARD OF 'pasodoblelaw25.LineSpoils'. -/
def lineSpoilsCard : Claim7 := { stood := { row := lineSpoilsRow, standIns := [], harness := (true, "cd5720e1c5b088afa195f588dae5f8d317a7d47fa3c6ea7c28d8533f655d1ad8"), looks := true }, kinds := [], alts := [], laidByText := true, laidKinds := [.sentinel, .sentinel, .sentinel, .sentinel, .sentinel], laidTests := true, laidLooks := .later }
def LineSpoilsCardSaid : Prop := Claim7.holds Tryd.pinned (.plain (OpenSpec.ofChange lineSpoilsSpec)) lineSpoilsCard

/-- THE TIED CARD OF 'pasodoblelaw23.QueueCloses'. -/
def queueClosesCard : Claim7 := { stood := { row := queueClosesRow, standIns := [], harness := (true, "cd5720e1c5b088afa195f588dae5f8d317a7d47fa3c6ea7c28d8533f655d1ad8"), looks := true }, kinds := [], alts := [], laidByText := true, laidKinds := [.sentinel, .sentinel, .sentinel, .sentinel, .sentinel], laidTests := true, laidLooks := .later }
def QueueClosesCardSaid : Prop := Claim7.holds Tryd.pinned (.plain (OpenSpec.ofChange queueClosesSpec)) queueClosesCard

/-- THE TIED CARD OF 'pasodoblelaw25.LineExact'. -/
def lineExactCard : Claim7 := { stood := { row := lineExactRow, standIns := [], harness := (true, "cd5720e1c5b088afa195f588dae5f8d317a7d47fa3c6ea7c28d8533f655d1ad8"), looks := true }, kinds := [], alts := [], laidByText := true, laidKinds := [.sentinel, .sentinel, .sentinel, .sentinel, .sentinel, .sentinel, .sentinel, .sentinel, .sentinel, .sentinel, .sentinel, .sentinel, .sentinel, .sentinel, .sentinel, .sentinel, .sentinel, .sentinel], laidTests := true, laidLooks := .later }
def LineExactCardSaid : Prop := Claim7.holds Tryd.pinned (.plain (OpenSpec.ofChange lineExactSpec)) lineExactCard

/-- THE TIED CARD OF 'pasodoblelaw23.QueueExact'. -/
def queueExactCard : Claim7 := { stood := { row := queueExactRow, standIns := [], harness := (true, "cd5720e1c5b088afa195f588dae5f8d317a7d47fa3c6ea7c28d8533f655d1ad8"), looks := true }, kinds := [], alts := [], laidByText := true, laidKinds := [.sentinel, .sentinel, .sentinel, .sentinel, .sentinel, .sentinel, .sentinel, .sentinel, .sentinel, .sentinel, .sentinel, .sentinel, .sentinel, .sentinel, .sentinel, .sentinel, .sentinel, .sentinel], laidTests := true, laidLooks := .later }
def QueueExactCardSaid : Prop := Claim7.holds Tryd.pinned (.plain (OpenSpec.ofChange queueExactSpec)) queueExactCard

/-- THE SECOND FORM's CARD OF 'pasodoblelaw23.QueueGets'. -/
def queueGetsUptoCard : Claim7 := { stood := { row := queueGetsUptoRow, standIns := [], harness := (true, "cd5720e1c5b088afa195f588dae5f8d317a7d47fa3c6ea7c28d8533f655d1ad8"), looks := true }, kinds := [], alts := [], laidByText := true, laidKinds := [.sentinel, .sentinel, .sentinel, .sentinel, .sentinel], laidTests := true, laidLooks := .later }
def QueueGetsUptoCardSaid : Prop := Claim7.holds Tryd.pinned (.plain (OpenSpec.upto queueGetsSpec)) queueGetsUptoCard

/-- THE SECOND FORM's CARD OF 'pasodoblelaw23.QueueTells'. -/
def queueTellsUptoCard : Claim7 := { stood := { row := queueTellsUptoRow, standIns := [], harness := (true, "cd5720e1c5b088afa195f588dae5f8d317a7d47fa3c6ea7c28d8533f655d1ad8"), looks := true }, kinds := [], alts := [], laidByText := true, laidKinds := [.sentinel, .sentinel, .sentinel, .sentinel, .sentinel], laidTests := true, laidLooks := .later }
def QueueTellsUptoCardSaid : Prop := Claim7.holds Tryd.pinned (.plain (OpenSpec.upto queueTellsSpec)) queueTellsUptoCard

/-- THE SECOND FORM's CARD OF 'pasodoblelaw23.QueueForgets'. -/
def queueForgetsUptoCard : Claim7 := { stood := { row := queueForgetsUptoRow, standIns := [], harness := (true, "cd5720e1c5b088afa195f588dae5f8d317a7d47fa3c6ea7c28d8533f655d1ad8"), looks := true }, kinds := [], alts := [], laidByText := true, laidKinds := [.sentinel, .sentinel, .sentinel, .sentinel, .sentinel], laidTests := true, laidLooks := .later }
def QueueForgetsUptoCardSaid : Prop := Claim7.holds Tryd.pinned (.plain (OpenSpec.upto queueForgetsSpec)) queueForgetsUptoCard

/-- THE SECOND FORM's CARD OF 'pasodoblelaw25.LineKeeps'. -/
def lineKeepsUptoCard : Claim7 := { stood := { row := lineKeepsUptoRow, standIns := [], harness := (true, "cd5720e1c5b088afa195f588dae5f8d317a7d47fa3c6ea7c28d8533f655d1ad8"), looks := true }, kinds := [], alts := [], laidByText := true, laidKinds := [.sentinel, .sentinel, .sentinel, .sentinel, .sentinel], laidTests := true, laidLooks := .later }
def LineKeepsUptoCardSaid : Prop := Claim7.holds Tryd.pinned (.plain (OpenSpec.upto lineKeepsSpec)) lineKeepsUptoCard

/-- THE SECOND FORM's CARD OF 'pasodoblelaw25.LineCounts'. -/
def lineCountsUptoCard : Claim7 := { stood := { row := lineCountsUptoRow, standIns := [], harness := (true, "cd5720e1c5b088afa195f588dae5f8d317a7d47fa3c6ea7c28d8533f655d1ad8"), looks := true }, kinds := [], alts := [], laidByText := true, laidKinds := [.sentinel, .sentinel, .sentinel, .sentinel, .sentinel], laidTests := true, laidLooks := .later }
def LineCountsUptoCardSaid : Prop := Claim7.holds Tryd.pinned (.plain (OpenSpec.upto lineCountsSpec)) lineCountsUptoCard

/-- THE SECOND FORM's CARD OF 'pasodoblelaw25.LineSpoils'. -/
def lineSpoilsUptoCard : Claim7 := { stood := { row := lineSpoilsUptoRow, standIns := [], harness := (true, "cd5720e1c5b088afa195f588dae5f8d317a7d47fa3c6ea7c28d8533f655d1ad8"), looks := true }, kinds := [], alts := [], laidByText := true, laidKinds := [.sentinel, .sentinel, .sentinel, .sentinel, .sentinel], laidTests := true, laidLooks := .later }
def LineSpoilsUptoCardSaid : Prop := Claim7.holds Tryd.pinned (.plain (OpenSpec.upto lineSpoilsSpec)) lineSpoilsUptoCard

/-- THE SECOND FORM's CARD OF 'pasodoblelaw23.QueueCloses'. -/
def queueClosesUptoCard : Claim7 := { stood := { row := queueClosesUptoRow, standIns := [], harness := (true, "cd5720e1c5b088afa195f588dae5f8d317a7d47fa3c6ea7c28d8533f655d1ad8"), looks := true }, kinds := [], alts := [], laidByText := true, laidKinds := [.sentinel, .sentinel, .sentinel, .sentinel, .sentinel], laidTests := true, laidLooks := .later }
def QueueClosesUptoCardSaid : Prop := Claim7.holds Tryd.pinned (.plain (OpenSpec.upto queueClosesSpec)) queueClosesUptoCard

/-- THE SECOND FORM's CARD OF 'pasodoblelaw25.LineExact'. -/
def lineExactUptoCard : Claim7 := { stood := { row := lineExactUptoRow, standIns := [], harness := (true, "cd5720e1c5b088afa195f588dae5f8d317a7d47fa3c6ea7c28d8533f655d1ad8"), looks := true }, kinds := [], alts := [], laidByText := true, laidKinds := [.sentinel, .sentinel, .sentinel, .sentinel, .sentinel, .sentinel, .sentinel, .sentinel, .sentinel, .sentinel, .sentinel, .sentinel, .sentinel, .sentinel, .sentinel, .sentinel, .sentinel, .sentinel], laidTests := true, laidLooks := .later }
def LineExactUptoCardSaid : Prop := Claim7.holds Tryd.pinned (.plain (OpenSpec.upto lineExactSpec)) lineExactUptoCard

/-- THE SECOND FORM's CARD OF 'pasodoblelaw23.QueueExact'. -/
def queueExactUptoCard : Claim7 := { stood := { row := queueExactUptoRow, standIns := [], harness := (true, "cd5720e1c5b088afa195f588dae5f8d317a7d47fa3c6ea7c28d8533f655d1ad8"), looks := true }, kinds := [], alts := [], laidByText := true, laidKinds := [.sentinel, .sentinel, .sentinel, .sentinel, .sentinel, .sentinel, .sentinel, .sentinel, .sentinel, .sentinel, .sentinel, .sentinel, .sentinel, .sentinel, .sentinel, .sentinel, .sentinel, .sentinel], laidTests := true, laidLooks := .later }
def QueueExactUptoCardSaid : Prop := Claim7.holds Tryd.pinned (.plain (OpenSpec.upto queueExactSpec)) queueExactUptoCard
end Rows
end Go.Proofs.YtkpbjahjiajodaaDoor
