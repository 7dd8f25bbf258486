/-
  DERIVED. GIVEN WITH THE SEED: THE CARDS: each row of YtpidjmgapiekaaaGreatDoorRows.lean that lists a variable, with what it lists TIED to the program's text (the seventh form; the later family's looks); each row that meets fmt, with fmt's text TOLD by the authors' own Lean function (tested against real Go, not proved from fmt's source: count such statements apart). THE CARD IS WHAT COUNTS. Prove the row's statement (the work); the ties are given (YtpidjmgapiekaaaGreatDoorTie.lean); close each card by the builder's one call (the guide's Derived/Test/ToyasCard.lean, 'card_holds'). Laid BY PROGRAM, IN A SANDBOX (cutbox-door.mjs). By AI agents, Wed Nov 11 2026. No macro, syntax, notation, axiom, sorry.
-/
import Derived.Test.YtpidjmgapiekaaaGreatDoorRows
import GoSem.ClaimSeven
namespace Go.Proofs.YtpidjmgapiekaaaGreatDoor
namespace Rows

/-- THE TIED CARD OF 'pasodoblelaw26.PartnerWindow'. -/
def partnerWindowCard : Claim7 := { stood := { row := partnerWindowRow, standIns := [], harness := (true, "3c7041cea2dd8900387c16c1170e11fe530e850342022a3806f166439f3849fe"), looks := true }, kinds := [], alts := [], laidByText := true, laidKinds := [.sentinel, .sentinel, .sentinel, .sentinel, .sentinel, .sentinel, .sentinel, .sentinel], laidTests := true, laidLooks := .later }
def PartnerWindowCardSaid : Prop := Claim7.holds Tryz.pinned (.plain (OpenSpec.ofChange partnerWindowSpec)) partnerWindowCard

/-- THE TIED CARD OF 'pasodoblelaw26.PartnerMeets'. -/
def partnerMeetsCard : Claim7 := { stood := { row := partnerMeetsRow, standIns := [], harness := (true, "3c7041cea2dd8900387c16c1170e11fe530e850342022a3806f166439f3849fe"), looks := true }, kinds := [], alts := [], laidByText := true, laidKinds := [.sentinel, .sentinel, .sentinel, .sentinel, .sentinel, .sentinel, .sentinel, .sentinel], laidTests := true, laidLooks := .later }
def PartnerMeetsCardSaid : Prop := Claim7.holds Tryz.pinned (.plain (OpenSpec.ofChange partnerMeetsSpec)) partnerMeetsCard

/-- THE TIED CARD OF 'pasodoblelaw26.PartnerFinds'. -/
def partnerFindsCard : Claim7 := { stood := { row := partnerFindsRow, standIns := [], harness := (true, "3c7041cea2dd8900387c16c1170e11fe530e850342022a3806f166439f3849fe"), looks := true }, kinds := [], alts := [], laidByText := true, laidKinds := [.sentinel, .sentinel, .sentinel, .sentinel, .sentinel, .sentinel, .sentinel, .sentinel], laidTests := true, laidLooks := .later }
def PartnerFindsCardSaid : Prop := Claim7.holds Tryz.pinned (.plain (OpenSpec.ofChange partnerFindsSpec)) partnerFindsCard

/-- THE TIED CARD OF 'pasodoblelaw26.PartnerSums'. -/
def partnerSumsCard : Claim7 := { stood := { row := partnerSumsRow, standIns := [], harness := (true, "3c7041cea2dd8900387c16c1170e11fe530e850342022a3806f166439f3849fe"), looks := true }, kinds := [], alts := [], laidByText := true, laidKinds := [.sentinel, .sentinel, .sentinel, .sentinel, .sentinel, .sentinel, .sentinel, .sentinel], laidTests := true, laidLooks := .later }
def PartnerSumsCardSaid : Prop := Claim7.holds Tryz.pinned (.plain (OpenSpec.ofChange partnerSumsSpec)) partnerSumsCard

/-- THE TIED CARD OF 'pasodoblelaw26.PartnerDrops'. -/
def partnerDropsCard : Claim7 := { stood := { row := partnerDropsRow, standIns := [], harness := (true, "3c7041cea2dd8900387c16c1170e11fe530e850342022a3806f166439f3849fe"), looks := true }, kinds := [], alts := [], laidByText := true, laidKinds := [.sentinel, .sentinel, .sentinel, .sentinel, .sentinel, .sentinel, .sentinel, .sentinel], laidTests := true, laidLooks := .later }
def PartnerDropsCardSaid : Prop := Claim7.holds Tryz.pinned (.plain (OpenSpec.ofChange partnerDropsSpec)) partnerDropsCard

/-- THE TIED CARD OF 'pasodoblelaw26.PartnerExact'. -/
def partnerExactCard : Claim7 := { stood := { row := partnerExactRow, standIns := [], harness := (true, "3c7041cea2dd8900387c16c1170e11fe530e850342022a3806f166439f3849fe"), looks := true }, kinds := [], alts := [], laidByText := true, laidKinds := [.sentinel, .sentinel, .sentinel, .sentinel, .sentinel, .sentinel, .sentinel, .sentinel, .sentinel, .sentinel, .sentinel, .sentinel, .sentinel, .sentinel, .sentinel, .sentinel, .sentinel, .sentinel], laidTests := true, laidLooks := .later }
def PartnerExactCardSaid : Prop := Claim7.holds Tryz.pinned (.plain (OpenSpec.ofChange partnerExactSpec)) partnerExactCard

/-- THE SECOND FORM's CARD OF 'pasodoblelaw26.PartnerWindow'. -/
def partnerWindowUptoCard : Claim7 := { stood := { row := partnerWindowUptoRow, standIns := [], harness := (true, "3c7041cea2dd8900387c16c1170e11fe530e850342022a3806f166439f3849fe"), looks := true }, kinds := [], alts := [], laidByText := true, laidKinds := [.sentinel, .sentinel, .sentinel, .sentinel, .sentinel, .sentinel, .sentinel, .sentinel], laidTests := true, laidLooks := .later }
def PartnerWindowUptoCardSaid : Prop := Claim7.holds Tryz.pinned (.plain (OpenSpec.upto partnerWindowSpec)) partnerWindowUptoCard

/-- THE SECOND FORM's CARD OF 'pasodoblelaw26.PartnerMeets'. -/
def partnerMeetsUptoCard : Claim7 := { stood := { row := partnerMeetsUptoRow, standIns := [], harness := (true, "3c7041cea2dd8900387c16c1170e11fe530e850342022a3806f166439f3849fe"), looks := true }, kinds := [], alts := [], laidByText := true, laidKinds := [.sentinel, .sentinel, .sentinel, .sentinel, .sentinel, .sentinel, .sentinel, .sentinel], laidTests := true, laidLooks := .later }
def PartnerMeetsUptoCardSaid : Prop := Claim7.holds Tryz.pinned (.plain (OpenSpec.upto partnerMeetsSpec)) partnerMeetsUptoCard

/-- THE SECOND FORM's CARD OF 'pasodoblelaw26.PartnerFinds'. -/
def partnerFindsUptoCard : Claim7 := { stood := { row := partnerFindsUptoRow, standIns := [], harness := (true, "3c7041cea2dd8900387c16c1170e11fe530e850342022a3806f166439f3849fe"), looks := true }, kinds := [], alts := [], laidByText := true, laidKinds := [.sentinel, .sentinel, .sentinel, .sentinel, .sentinel, .sentinel, .sentinel, .sentinel], laidTests := true, laidLooks := .later }
def PartnerFindsUptoCardSaid : Prop := Claim7.holds Tryz.pinned (.plain (OpenSpec.upto partnerFindsSpec)) partnerFindsUptoCard

/-- THE SECOND FORM's CARD OF 'pasodoblelaw26.PartnerSums'. -/
def partnerSumsUptoCard : Claim7 := { stood := { row := partnerSumsUptoRow, standIns := [], harness := (true, "3c7041cea2dd8900387c16c1170e11fe530e850342022a3806f166439f3849fe"), looks := true }, kinds := [], alts := [], laidByText := true, laidKinds := [.sentinel, .sentinel, .sentinel, .sentinel, .sentinel, .sentinel, .sentinel, .sentinel], laidTests := true, laidLooks := .later }
def PartnerSumsUptoCardSaid : Prop := Claim7.holds Tryz.pinned (.plain (OpenSpec.upto partnerSumsSpec)) partnerSumsUptoCard

/-- THE SECOND FORM's CARD OF 'pasodoblelaw26.PartnerDrops'. -/
def partnerDropsUptoCard : Claim7 := { stood := { row := partnerDropsUptoRow, standIns := [], harness := (true, "3c7041cea2dd8900387c16c1170e11fe530e850342022a3806f166439f3849fe"), looks := true }, kinds := [], alts := [], laidByText := true, laidKinds := [.sentinel, .sentinel, .sentinel, .sentinel, .sentinel, .sentinel, .sentinel, .sentinel], laidTests := true, laidLooks := .later }
def PartnerDropsUptoCardSaid : Prop := Claim7.holds Tryz.pinned (.plain (OpenSpec.upto partnerDropsSpec)) partnerDropsUptoCard

/-- THE SECOND FORM's CARD OF 'pasodoblelaw26.PartnerExact'. -/
def partnerExactUptoCard : Claim7 := { stood := { row := partnerExactUptoRow, standIns := [], harness := (true, "3c7041cea2dd8900387c16c1170e11fe530e850342022a3806f166439f3849fe"), looks := true }, kinds := [], alts := [], laidByText := true, laidKinds := [.sentinel, .sentinel, .sentinel, .sentinel, .sentinel, .sentinel, .sentinel, .sentinel, .sentinel, .sentinel, .sentinel, .sentinel, .sentinel, .sentinel, .sentinel, .sentinel, .sentinel, .sentinel], laidTests := true, laidLooks := .later }
def PartnerExactUptoCardSaid : Prop := Claim7.holds Tryz.pinned (.plain (OpenSpec.upto partnerExactSpec)) partnerExactUptoCard
end Rows
end Go.Proofs.YtpidjmgapiekaaaGreatDoor
