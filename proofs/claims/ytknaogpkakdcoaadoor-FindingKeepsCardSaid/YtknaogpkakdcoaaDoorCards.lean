/-
  DERIVED. GIVEN WITH THE SEED: THE CARDS: each row of YtknaogpkakdcoaaDoorRows.lean that lists a variable, with what it lists TIED to the program's text (the seventh form; the later family's looks); each row that meets fmt, with fmt's text TOLD by the authors' own Lean function (tested against real Go, not proved from fmt's source: count such statements apart). THE CARD IS WHAT COUNTS. Prove the row's statement (the work); the ties are given (YtknaogpkakdcoaaDoorTie.lean); close each card by the builder's one call (the guide's Derived/Test/ToyasCard.lean, 'card_holds'). Laid BY PROGRAM, IN A SANDBOX (cutbox-door.mjs). By AI agents, Wed Nov 11 2026. No macro, syntax, notation, axiom, sorry.
-/
import Derived.Test.YtknaogpkakdcoaaDoorRows
import GoSem.ClaimSeven
namespace Go.Proofs.YtknaogpkakdcoaaDoor
namespace Rows

/-- THE TIED CARD OF 'peeragelaw11.FindingTexts'. -/
def findingTextsCard : Claim7 := { stood := { row := findingTextsRow, standIns := [], harness := (true, "037e7e2a20bf23a7945266b06d7889d6de18f0960602825e0bb32fc5001743d2"), looks := false }, kinds := [], alts := [], laidByText := true, laidKinds := [.data, .data, .data, .data, .data], laidTests := true, laidLooks := .later }
def FindingTextsCardSaid : Prop := Claim7.holds Tryd.pinned (.plain (OpenSpec.ofChange findingTextsSpec)) findingTextsCard

/-- THE TIED CARD OF 'peeragelaw11.FindingOrders'. -/
def findingOrdersCard : Claim7 := { stood := { row := findingOrdersRow, standIns := [], harness := (true, "037e7e2a20bf23a7945266b06d7889d6de18f0960602825e0bb32fc5001743d2"), looks := false }, kinds := [], alts := [], laidByText := true, laidKinds := [.data, .data, .data, .data, .data], laidTests := true, laidLooks := .later }
def FindingOrdersCardSaid : Prop := Claim7.holds Tryd.pinned (.plain (OpenSpec.ofChange findingOrdersSpec)) findingOrdersCard

/-- THE TIED CARD OF 'peeragelaw11.FindingFolds'. -/
def findingFoldsCard : Claim7 := { stood := { row := findingFoldsRow, standIns := [], harness := (true, "037e7e2a20bf23a7945266b06d7889d6de18f0960602825e0bb32fc5001743d2"), looks := false }, kinds := [], alts := [], laidByText := true, laidKinds := [.data, .data, .data, .data, .data], laidTests := true, laidLooks := .later }
def FindingFoldsCardSaid : Prop := Claim7.holds Tryd.pinned (.plain (OpenSpec.ofChange findingFoldsSpec)) findingFoldsCard

/-- THE TIED CARD OF 'peeragelaw11.FindingLogs'. -/
def findingLogsCard : Claim7 := { stood := { row := findingLogsRow, standIns := [], harness := (true, "037e7e2a20bf23a7945266b06d7889d6de18f0960602825e0bb32fc5001743d2"), looks := false }, kinds := [], alts := [], laidByText := true, laidKinds := [.data, .data, .data, .data, .data], laidTests := true, laidLooks := .later }
def FindingLogsCardSaid : Prop := Claim7.holds Tryd.pinned (.plain (OpenSpec.ofChange findingLogsSpec)) findingLogsCard

/-- THE TIED CARD OF 'peeragelaw11.FindingKeeps'. -/
def findingKeepsCard : Claim7 := { stood := { row := findingKeepsRow, standIns := [], harness := (true, "037e7e2a20bf23a7945266b06d7889d6de18f0960602825e0bb32fc5001743d2"), looks := false }, kinds := [], alts := [], laidByText := true, laidKinds := [.data, .data, .data, .data, .data], laidTests := true, laidLooks := .later }
def FindingKeepsCardSaid : Prop := Claim7.holds Tryd.pinned (.plain (OpenSpec.ofChange findingKeepsSpec)) findingKeepsCard

/-- THE SECOND FORM's CARD OF 'peeragelaw11.FindingTexts'. -/
def findingTextsUptoCard : Claim7 := { stood := { row := findingTextsUptoRow, standIns := [], harness := (true, "037e7e2a20bf23a7945266b06d7889d6de18f0960602825e0bb32fc5001743d2"), looks := false }, kinds := [], alts := [], laidByText := true, laidKinds := [.data, .data, .data, .data, .data], laidTests := true, laidLooks := .later }
def FindingTextsUptoCardSaid : Prop := Claim7.holds Tryd.pinned (.plain (OpenSpec.upto findingTextsSpec)) findingTextsUptoCard

/-- THE SECOND FORM's CARD OF 'peeragelaw11.FindingOrders'. -/
def findingOrdersUptoCard : Claim7 := { stood := { row := findingOrdersUptoRow, standIns := [], harness := (true, "037e7e2a20bf23a7945266b06d7889d6de18f0960602825e0bb32fc5001743d2"), looks := false }, kinds := [], alts := [], laidByText := true, laidKinds := [.data, .data, .data, .data, .data], laidTests := true, laidLooks := .later }
def FindingOrdersUptoCardSaid : Prop := Claim7.holds Tryd.pinned (.plain (OpenSpec.upto findingOrdersSpec)) findingOrdersUptoCard

/-- THE SECOND FORM's CARD OF 'peeragelaw11.FindingFolds'. -/
def findingFoldsUptoCard : Claim7 := { stood := { row := findingFoldsUptoRow, standIns := [], harness := (true, "037e7e2a20bf23a7945266b06d7889d6de18f0960602825e0bb32fc5001743d2"), looks := false }, kinds := [], alts := [], laidByText := true, laidKinds := [.data, .data, .data, .data, .data], laidTests := true, laidLooks := .later }
def FindingFoldsUptoCardSaid : Prop := Claim7.holds Tryd.pinned (.plain (OpenSpec.upto findingFoldsSpec)) findingFoldsUptoCard

/-- THE SECOND FORM's CARD OF 'peeragelaw11.FindingLogs'. -/
def findingLogsUptoCard : Claim7 := { stood := { row := findingLogsUptoRow, standIns := [], harness := (true, "037e7e2a20bf23a7945266b06d7889d6de18f0960602825e0bb32fc5001743d2"), looks := false }, kinds := [], alts := [], laidByText := true, laidKinds := [.data, .data, .data, .data, .data], laidTests := true, laidLooks := .later }
def FindingLogsUptoCardSaid : Prop := Claim7.holds Tryd.pinned (.plain (OpenSpec.upto findingLogsSpec)) findingLogsUptoCard

/-- THE SECOND FORM's CARD OF 'peeragelaw11.FindingKeeps'. -/
def findingKeepsUptoCard : Claim7 := { stood := { row := findingKeepsUptoRow, standIns := [], harness := (true, "037e7e2a20bf23a7945266b06d7889d6de18f0960602825e0bb32fc5001743d2"), looks := false }, kinds := [], alts := [], laidByText := true, laidKinds := [.data, .data, .data, .data, .data], laidTests := true, laidLooks := .later }
def FindingKeepsUptoCardSaid : Prop := Claim7.holds Tryd.pinned (.plain (OpenSpec.upto findingKeepsSpec)) findingKeepsUptoCard
end Rows
end Go.Proofs.YtknaogpkakdcoaaDoor
