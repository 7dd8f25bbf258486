/-
  DERIVED. GIVEN WITH THE SEED: THE CARDS: each row of YtgdbpicelnoacaaDoorRows.lean that lists a variable, with what it lists TIED to the program's text (the seventh form; the later family's looks); each row that meets fmt, with fmt's text TOLD by the authors' own Lean function (tested against real Go, not proved from fmt's source: count such statements apart). THE CARD IS WHAT COUNTS. Prove the row's statement (the work); the ties are given (YtgdbpicelnoacaaDoorTie.lean); close each card by the builder's one call (the guide's Derived/Test/ToyasCard.lean, 'card_holds'). Laid BY PROGRAM, IN A SANDBOX (cutbox-door.mjs). By AI agents, Wed Nov 11 2026. No macro, syntax, notation, axiom, sorry.
-/
import Derived.Test.YtgdbpicelnoacaaDoorRows
import GoSem.ClaimSeven
namespace Go.Proofs.YtgdbpicelnoacaaDoor
namespace Rows

/-- THE TIED CARD OF 'pasodoblelaw02.StrandWrites'. -/
def strandWritesCard : Claim7 := { stood := { row := strandWritesRow, standIns := [], harness := (true, "6e776eb804e27d4895d4d17693bc953efff97ebe76f5f1de194905a18f9c5772"), looks := true }, kinds := [], alts := [], laidByText := true, laidKinds := [.sentinel, .sentinel, .sentinel, .sentinel, .sentinel, .sentinel, .sentinel, .sentinel, .sentinel, .sentinel, .sentinel, .sentinel, .sentinel, .sentinel, .sentinel, .sentinel, .sentinel, .sentinel], laidTests := true, laidLooks := .later }
def StrandWritesCardSaid : Prop := Claim7.holds Tryd.pinned (.plain (OpenSpec.ofChange strandWritesSpec)) strandWritesCard

/-- THE TIED CARD OF 'pasodoblelaw02.StrandReads'. -/
def strandReadsCard : Claim7 := { stood := { row := strandReadsRow, standIns := [], harness := (true, "6e776eb804e27d4895d4d17693bc953efff97ebe76f5f1de194905a18f9c5772"), looks := true }, kinds := [], alts := [], laidByText := true, laidKinds := [.sentinel, .sentinel, .sentinel, .sentinel], laidTests := true, laidLooks := .later }
def StrandReadsCardSaid : Prop := Claim7.holds Tryd.pinned (.plain (OpenSpec.ofChange strandReadsSpec)) strandReadsCard

/-- THE TIED CARD OF 'pasodoblelaw02.StrandBack'. -/
def strandBackCard : Claim7 := { stood := { row := strandBackRow, standIns := [], harness := (true, "6e776eb804e27d4895d4d17693bc953efff97ebe76f5f1de194905a18f9c5772"), looks := true }, kinds := [], alts := [], laidByText := true, laidKinds := [.sentinel, .sentinel, .sentinel, .sentinel], laidTests := true, laidLooks := .later }
def StrandBackCardSaid : Prop := Claim7.holds Tryd.pinned (.plain (OpenSpec.ofChange strandBackSpec)) strandBackCard

/-- THE TIED CARD OF 'pasodoblelaw02.StrandForms'. -/
def strandFormsCard : Claim7 := { stood := { row := strandFormsRow, standIns := [], harness := (true, "6e776eb804e27d4895d4d17693bc953efff97ebe76f5f1de194905a18f9c5772"), looks := true }, kinds := [], alts := [], laidByText := true, laidKinds := [.sentinel, .sentinel, .sentinel, .sentinel], laidTests := true, laidLooks := .later }
def StrandFormsCardSaid : Prop := Claim7.holds Tryd.pinned (.plain (OpenSpec.ofChange strandFormsSpec)) strandFormsCard

/-- THE TIED CARD OF 'pasodoblelaw02.StrandCuts'. -/
def strandCutsCard : Claim7 := { stood := { row := strandCutsRow, standIns := [], harness := (true, "6e776eb804e27d4895d4d17693bc953efff97ebe76f5f1de194905a18f9c5772"), looks := true }, kinds := [], alts := [], laidByText := true, laidKinds := [.sentinel, .sentinel, .sentinel, .sentinel], laidTests := true, laidLooks := .later }
def StrandCutsCardSaid : Prop := Claim7.holds Tryd.pinned (.plain (OpenSpec.ofChange strandCutsSpec)) strandCutsCard

/-- THE TIED CARD OF 'pasodoblelaw02.StrandBounds'. -/
def strandBoundsCard : Claim7 := { stood := { row := strandBoundsRow, standIns := [], harness := (true, "6e776eb804e27d4895d4d17693bc953efff97ebe76f5f1de194905a18f9c5772"), looks := true }, kinds := [], alts := [], laidByText := true, laidKinds := [.sentinel, .sentinel, .sentinel, .sentinel], laidTests := true, laidLooks := .later }
def StrandBoundsCardSaid : Prop := Claim7.holds Tryd.pinned (.plain (OpenSpec.ofChange strandBoundsSpec)) strandBoundsCard

/-- THE TIED CARD OF 'pasodoblelaw24.ParcelBack'. -/
def parcelBackCard : Claim7 := { stood := { row := parcelBackRow, standIns := [], harness := (true, "6e776eb804e27d4895d4d17693bc953efff97ebe76f5f1de194905a18f9c5772"), looks := true }, kinds := [], alts := [], laidByText := true, laidKinds := [.sentinel, .sentinel, .sentinel, .sentinel, .sentinel], laidTests := true, laidLooks := .later }
def ParcelBackCardSaid : Prop := Claim7.holds Tryd.pinned (.plain (OpenSpec.ofChange parcelBackSpec)) parcelBackCard

/-- THE TIED CARD OF 'pasodoblelaw24.ParcelTells'. -/
def parcelTellsCard : Claim7 := { stood := { row := parcelTellsRow, standIns := [], harness := (true, "6e776eb804e27d4895d4d17693bc953efff97ebe76f5f1de194905a18f9c5772"), looks := true }, kinds := [], alts := [], laidByText := true, laidKinds := [.sentinel, .sentinel, .sentinel, .sentinel, .sentinel], laidTests := true, laidLooks := .later }
def ParcelTellsCardSaid : Prop := Claim7.holds Tryd.pinned (.plain (OpenSpec.ofChange parcelTellsSpec)) parcelTellsCard

/-- THE TIED CARD OF 'pasodoblelaw24.ParcelShort'. -/
def parcelShortCard : Claim7 := { stood := { row := parcelShortRow, standIns := [], harness := (true, "6e776eb804e27d4895d4d17693bc953efff97ebe76f5f1de194905a18f9c5772"), looks := true }, kinds := [], alts := [], laidByText := true, laidKinds := [.sentinel, .sentinel, .sentinel, .sentinel, .sentinel], laidTests := true, laidLooks := .later }
def ParcelShortCardSaid : Prop := Claim7.holds Tryd.pinned (.plain (OpenSpec.ofChange parcelShortSpec)) parcelShortCard

/-- THE TIED CARD OF 'pasodoblelaw24.ParcelWrites'. -/
def parcelWritesCard : Claim7 := { stood := { row := parcelWritesRow, standIns := [], harness := (true, "6e776eb804e27d4895d4d17693bc953efff97ebe76f5f1de194905a18f9c5772"), looks := true }, kinds := [], alts := [], laidByText := true, laidKinds := [.sentinel, .sentinel, .sentinel, .sentinel, .sentinel, .data], laidTests := true, laidLooks := .later }
def ParcelWritesCardSaid : Prop := Claim7.holds Tryd.pinned (.plain (OpenSpec.ofChange parcelWritesSpec)) parcelWritesCard

/-- THE TIED CARD OF 'pasodoblelaw24.ParcelReads'. -/
def parcelReadsCard : Claim7 := { stood := { row := parcelReadsRow, standIns := [], harness := (true, "6e776eb804e27d4895d4d17693bc953efff97ebe76f5f1de194905a18f9c5772"), looks := true }, kinds := [], alts := [], laidByText := true, laidKinds := [.sentinel, .sentinel, .sentinel, .sentinel, .sentinel, .sentinel, .sentinel, .sentinel, .sentinel, .sentinel, .sentinel, .sentinel, .sentinel, .sentinel, .sentinel, .sentinel, .sentinel, .sentinel], laidTests := true, laidLooks := .later }
def ParcelReadsCardSaid : Prop := Claim7.holds Tryd.pinned (.plain (OpenSpec.ofChange parcelReadsSpec)) parcelReadsCard

/-- THE SECOND FORM's CARD OF 'pasodoblelaw02.StrandWrites'. -/
def strandWritesUptoCard : Claim7 := { stood := { row := strandWritesUptoRow, standIns := [], harness := (true, "6e776eb804e27d4895d4d17693bc953efff97ebe76f5f1de194905a18f9c5772"), looks := true }, kinds := [], alts := [], laidByText := true, laidKinds := [.sentinel, .sentinel, .sentinel, .sentinel, .sentinel, .sentinel, .sentinel, .sentinel, .sentinel, .sentinel, .sentinel, .sentinel, .sentinel, .sentinel, .sentinel, .sentinel, .sentinel, .sentinel], laidTests := true, laidLooks := .later }
def StrandWritesUptoCardSaid : Prop := Claim7.holds Tryd.pinned (.plain (OpenSpec.upto strandWritesSpec)) strandWritesUptoCard

/-- THE SECOND FORM's CARD OF 'pasodoblelaw02.StrandReads'. -/
def strandReadsUptoCard : Claim7 := { stood := { row := strandReadsUptoRow, standIns := [], harness := (true, "6e776eb804e27d4895d4d17693bc953efff97ebe76f5f1de194905a18f9c5772"), looks := true }, kinds := [], alts := [], laidByText := true, laidKinds := [.sentinel, .sentinel, .sentinel, .sentinel], laidTests := true, laidLooks := .later }
def StrandReadsUptoCardSaid : Prop := Claim7.holds Tryd.pinned (.plain (OpenSpec.upto strandReadsSpec)) strandReadsUptoCard

/-- THE SECOND FORM's CARD OF 'pasodoblelaw02.StrandBack'. -/
def strandBackUptoCard : Claim7 := { stood := { row := strandBackUptoRow, standIns := [], harness := (true, "6e776eb804e27d4895d4d17693bc953efff97ebe76f5f1de194905a18f9c5772"), looks := true }, kinds := [], alts := [], laidByText := true, laidKinds := [.sentinel, .sentinel, .sentinel, .sentinel], laidTests := true, laidLooks := .later }
def StrandBackUptoCardSaid : Prop := Claim7.holds Tryd.pinned (.plain (OpenSpec.upto strandBackSpec)) strandBackUptoCard

/-- THE SECOND FORM's CARD OF 'pasodoblelaw02.StrandForms'. -/
def strandFormsUptoCard : Claim7 := { stood := { row := strandFormsUptoRow, standIns := [], harness := (true, "6e776eb804e27d4895d4d17693bc953efff97ebe76f5f1de194905a18f9c5772"), looks := true }, kinds := [], alts := [], laidByText := true, laidKinds := [.sentinel, .sentinel, .sentinel, .sentinel], laidTests := true, laidLooks := .later }
def StrandFormsUptoCardSaid : Prop := Claim7.holds Tryd.pinned (.plain (OpenSpec.upto strandFormsSpec)) strandFormsUptoCard

/-- THE SECOND FORM's CARD OF 'pasodoblelaw02.StrandCuts'. -/
def strandCutsUptoCard : Claim7 := { stood := { row := strandCutsUptoRow, standIns := [], harness := (true, "6e776eb804e27d4895d4d17693bc953efff97ebe76f5f1de194905a18f9c5772"), looks := true }, kinds := [], alts := [], laidByText := true, laidKinds := [.sentinel, .sentinel, .sentinel, .sentinel], laidTests := true, laidLooks := .later }
def StrandCutsUptoCardSaid : Prop := Claim7.holds Tryd.pinned (.plain (OpenSpec.upto strandCutsSpec)) strandCutsUptoCard

/-- THE SECOND FORM's CARD OF 'pasodoblelaw02.StrandBounds'. -/
def strandBoundsUptoCard : Claim7 := { stood := { row := strandBoundsUptoRow, standIns := [], harness := (true, "6e776eb804e27d4895d4d17693bc953efff97ebe76f5f1de194905a18f9c5772"), looks := true }, kinds := [], alts := [], laidByText := true, laidKinds := [.sentinel, .sentinel, .sentinel, .sentinel], laidTests := true, laidLooks := .later }
def StrandBoundsUptoCardSaid : Prop := Claim7.holds Tryd.pinned (.plain (OpenSpec.upto strandBoundsSpec)) strandBoundsUptoCard

/-- THE SECOND FORM's CARD OF 'pasodoblelaw24.ParcelBack'. -/
def parcelBackUptoCard : Claim7 := { stood := { row := parcelBackUptoRow, standIns := [], harness := (true, "6e776eb804e27d4895d4d17693bc953efff97ebe76f5f1de194905a18f9c5772"), looks := true }, kinds := [], alts := [], laidByText := true, laidKinds := [.sentinel, .sentinel, .sentinel, .sentinel, .sentinel], laidTests := true, laidLooks := .later }
def ParcelBackUptoCardSaid : Prop := Claim7.holds Tryd.pinned (.plain (OpenSpec.upto parcelBackSpec)) parcelBackUptoCard

/-- THE SECOND FORM's CARD OF 'pasodoblelaw24.ParcelTells'. -/
def parcelTellsUptoCard : Claim7 := { stood := { row := parcelTellsUptoRow, standIns := [], harness := (true, "6e776eb804e27d4895d4d17693bc953efff97ebe76f5f1de194905a18f9c5772"), looks := true }, kinds := [], alts := [], laidByText := true, laidKinds := [.sentinel, .sentinel, .sentinel, .sentinel, .sentinel], laidTests := true, laidLooks := .later }
def ParcelTellsUptoCardSaid : Prop := Claim7.holds Tryd.pinned (.plain (OpenSpec.upto parcelTellsSpec)) parcelTellsUptoCard

/-- THE SECOND FORM's CARD OF 'pasodoblelaw24.ParcelShort'. -/
def parcelShortUptoCard : Claim7 := { stood := { row := parcelShortUptoRow, standIns := [], harness := (true, "6e776eb804e27d4895d4d17693bc953efff97ebe76f5f1de194905a18f9c5772"), looks := true }, kinds := [], alts := [], laidByText := true, laidKinds := [.sentinel, .sentinel, .sentinel, .sentinel, .sentinel], laidTests := true, laidLooks := .later }
def ParcelShortUptoCardSaid : Prop := Claim7.holds Tryd.pinned (.plain (OpenSpec.upto parcelShortSpec)) parcelShortUptoCard

/-- THE SECOND FORM's CARD OF 'pasodoblelaw24.ParcelWrites'. -/
def parcelWritesUptoCard : Claim7 := { stood := { row := parcelWritesUptoRow, standIns := [], harness := (true, "6e776eb804e27d4895d4d17693bc953efff97ebe76f5f1de194905a18f9c5772"), looks := true }, kinds := [], alts := [], laidByText := true, laidKinds := [.sentinel, .sentinel, .sentinel, .sentinel, .sentinel, .data], laidTests := true, laidLooks := .later }
def ParcelWritesUptoCardSaid : Prop := Claim7.holds Tryd.pinned (.plain (OpenSpec.upto parcelWritesSpec)) parcelWritesUptoCard

/-- THE SECOND FORM's CARD OF 'pasodoblelaw24.ParcelReads'. -/
def parcelReadsUptoCard : Claim7 := { stood := { row := parcelReadsUptoRow, standIns := [], harness := (true, "6e776eb804e27d4895d4d17693bc953efff97ebe76f5f1de194905a18f9c5772"), looks := true }, kinds := [], alts := [], laidByText := true, laidKinds := [.sentinel, .sentinel, .sentinel, .sentinel, .sentinel, .sentinel, .sentinel, .sentinel, .sentinel, .sentinel, .sentinel, .sentinel, .sentinel, .sentinel, .sentinel, .sentinel, .sentinel, .sentinel], laidTests := true, laidLooks := .later }
def ParcelReadsUptoCardSaid : Prop := Claim7.holds Tryd.pinned (.plain (OpenSpec.upto parcelReadsSpec)) parcelReadsUptoCard
end Rows
end Go.Proofs.YtgdbpicelnoacaaDoor
