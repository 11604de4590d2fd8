/-
  DERIVED. GIVEN WITH THE SEED: THE CARDS: each row of YtkhonebedoemoaaDoorRows.lean that lists a variable, with what it lists TIED to the program's text (the seventh form; the later family's looks); each row that meets fmt, with fmt's text TOLD by the authors' own Lean function (tested against real Go, not proved from fmt's source: count such statements apart). THE CARD IS WHAT COUNTS. Prove the row's statement (the work); the ties are given (YtkhonebedoemoaaDoorTie.lean); close each card by the builder's one call (the guide's Derived/Test/ToyasCard.lean, 'card_holds'). Laid BY PROGRAM, IN A SANDBOX (cutbox-door.mjs). By AI agents, Wed Nov 11 2026. No macro, syntax, notation, axiom, sorry.
-/
import Derived.Test.YtkhonebedoemoaaDoorRows
import GoSem.ClaimSeven
namespace Go.Proofs.YtkhonebedoemoaaDoor
namespace Rows

/-- THE TIED CARD OF 'peeragelaw09.CommunityHas'. -/
def communityHasCard : Claim7 := { stood := { row := communityHasRow, standIns := [], harness := (true, "d89d0ee99ab3e4b18e05e5262858258b4f96a063871e5ec57d96d24936158001"), looks := false }, kinds := [], alts := [], laidByText := true, laidKinds := [.data, .data, .data], laidTests := true, laidLooks := .later }
def CommunityHasCardSaid : Prop := Claim7.holds Tryd.pinned (.plain (OpenSpec.ofChange communityHasSpec)) communityHasCard

/-- THE TIED CARD OF 'peeragelaw09.CommunityUnique'. -/
def communityUniqueCard : Claim7 := { stood := { row := communityUniqueRow, standIns := [], harness := (true, "d89d0ee99ab3e4b18e05e5262858258b4f96a063871e5ec57d96d24936158001"), looks := false }, kinds := [], alts := [], laidByText := true, laidKinds := [.data, .data, .data], laidTests := true, laidLooks := .later }
def CommunityUniqueCardSaid : Prop := Claim7.holds Tryd.pinned (.plain (OpenSpec.ofChange communityUniqueSpec)) communityUniqueCard

/-- THE TIED CARD OF 'peeragelaw09.CommunityForms'. -/
def communityFormsCard : Claim7 := { stood := { row := communityFormsRow, standIns := [], harness := (true, "d89d0ee99ab3e4b18e05e5262858258b4f96a063871e5ec57d96d24936158001"), looks := false }, kinds := [], alts := [], laidByText := true, laidKinds := [.data, .data, .data], laidTests := true, laidLooks := .later }
def CommunityFormsCardSaid : Prop := Claim7.holds Tryd.pinned (.plain (OpenSpec.ofChange communityFormsSpec)) communityFormsCard

/-- THE TIED CARD OF 'peeragelaw09.CommunityReads'. -/
def communityReadsCard : Claim7 := { stood := { row := communityReadsRow, standIns := [], harness := (true, "d89d0ee99ab3e4b18e05e5262858258b4f96a063871e5ec57d96d24936158001"), looks := false }, kinds := [], alts := [], laidByText := true, laidKinds := [.data, .data, .data], laidTests := true, laidLooks := .later }
def CommunityReadsCardSaid : Prop := Claim7.holds Tryd.pinned (.plain (OpenSpec.ofChange communityReadsSpec)) communityReadsCard

/-- THE TIED CARD OF 'peeragelaw09.CommunityKinds'. -/
def communityKindsCard : Claim7 := { stood := { row := communityKindsRow, standIns := [], harness := (true, "d89d0ee99ab3e4b18e05e5262858258b4f96a063871e5ec57d96d24936158001"), looks := false }, kinds := [], alts := [], laidByText := true, laidKinds := [.data, .data, .data], laidTests := true, laidLooks := .later }
def CommunityKindsCardSaid : Prop := Claim7.holds Tryd.pinned (.plain (OpenSpec.ofChange communityKindsSpec)) communityKindsCard

/-- THE SECOND FORM's CARD OF 'peeragelaw09.CommunityHas'. -/
def communityHasUptoCard : Claim7 := { stood := { row := communityHasUptoRow, standIns := [], harness := (true, "d89d0ee99ab3e4b18e05e5262858258b4f96a063871e5ec57d96d24936158001"), looks := false }, kinds := [], alts := [], laidByText := true, laidKinds := [.data, .data, .data], laidTests := true, laidLooks := .later }
def CommunityHasUptoCardSaid : Prop := Claim7.holds Tryd.pinned (.plain (OpenSpec.upto communityHasSpec)) communityHasUptoCard

/-- THE SECOND FORM's CARD OF 'peeragelaw09.CommunityUnique'. -/
def communityUniqueUptoCard : Claim7 := { stood := { row := communityUniqueUptoRow, standIns := [], harness := (true, "d89d0ee99ab3e4b18e05e5262858258b4f96a063871e5ec57d96d24936158001"), looks := false }, kinds := [], alts := [], laidByText := true, laidKinds := [.data, .data, .data], laidTests := true, laidLooks := .later }
def CommunityUniqueUptoCardSaid : Prop := Claim7.holds Tryd.pinned (.plain (OpenSpec.upto communityUniqueSpec)) communityUniqueUptoCard

/-- THE SECOND FORM's CARD OF 'peeragelaw09.CommunityForms'. -/
def communityFormsUptoCard : Claim7 := { stood := { row := communityFormsUptoRow, standIns := [], harness := (true, "d89d0ee99ab3e4b18e05e5262858258b4f96a063871e5ec57d96d24936158001"), looks := false }, kinds := [], alts := [], laidByText := true, laidKinds := [.data, .data, .data], laidTests := true, laidLooks := .later }
def CommunityFormsUptoCardSaid : Prop := Claim7.holds Tryd.pinned (.plain (OpenSpec.upto communityFormsSpec)) communityFormsUptoCard

/-- THE SECOND FORM's CARD OF 'peeragelaw09.CommunityReads'. -/
def communityReadsUptoCard : Claim7 := { stood := { row := communityReadsUptoRow, standIns := [], harness := (true, "d89d0ee99ab3e4b18e05e5262858258b4f96a063871e5ec57d96d24936158001"), looks := false }, kinds := [], alts := [], laidByText := true, laidKinds := [.data, .data, .data], laidTests := true, laidLooks := .later }
def CommunityReadsUptoCardSaid : Prop := Claim7.holds Tryd.pinned (.plain (OpenSpec.upto communityReadsSpec)) communityReadsUptoCard

/-- THE SECOND FORM's CARD OF 'peeragelaw09.CommunityKinds'. -/
def communityKindsUptoCard : Claim7 := { stood := { row := communityKindsUptoRow, standIns := [], harness := (true, "d89d0ee99ab3e4b18e05e5262858258b4f96a063871e5ec57d96d24936158001"), looks := false }, kinds := [], alts := [], laidByText := true, laidKinds := [.data, .data, .data], laidTests := true, laidLooks := .later }
def CommunityKindsUptoCardSaid : Prop := Claim7.holds Tryd.pinned (.plain (OpenSpec.upto communityKindsSpec)) communityKindsUptoCard
end Rows
end Go.Proofs.YtkhonebedoemoaaDoor
