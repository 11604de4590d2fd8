/-
  DERIVED. GIVEN WITH THE SEED: THE CARDS: each row of YtjcmgfegnngjjaaDoorRows.lean that lists a variable, with what it lists TIED to the program's text (the seventh form; the later family's looks); each row that meets fmt, with fmt's text TOLD by the authors' own Lean function (tested against real Go, not proved from fmt's source: count such statements apart). THE CARD IS WHAT COUNTS. Prove the row's statement (the work); the ties are given (YtjcmgfegnngjjaaDoorTie.lean); close each card by the builder's one call (the guide's Derived/Test/ToyasCard.lean, 'card_holds'). Laid BY PROGRAM, IN A SANDBOX (cutbox-door.mjs). By AI agents, Wed Nov 11 2026. No macro, syntax, notation, axiom, sorry.
-/
import Derived.Test.YtjcmgfegnngjjaaDoorRows
import GoSem.ClaimSeven
namespace Go.Proofs.YtjcmgfegnngjjaaDoor
namespace Rows

/-- THE TIED CARD OF 'peeragelaw22.NegotiateWinners'. -/
def negotiateWinnersCard : Claim7 := { stood := { row := negotiateWinnersRow, standIns := [], harness := (true, "5a5982d1c026784a8de377feb3149e88429f313385ea15da644b131abd12d721"), looks := false }, kinds := [], alts := [], laidByText := true, laidKinds := [.data, .data, .data], laidTests := true, laidLooks := .later }
def NegotiateWinnersCardSaid : Prop := Claim7.holds Tryd.pinned (.plain (OpenSpec.ofChange negotiateWinnersSpec)) negotiateWinnersCard

/-- THE SECOND FORM's CARD OF 'peeragelaw22.NegotiateWinners'. -/
def negotiateWinnersUptoCard : Claim7 := { stood := { row := negotiateWinnersUptoRow, standIns := [], harness := (true, "5a5982d1c026784a8de377feb3149e88429f313385ea15da644b131abd12d721"), looks := false }, kinds := [], alts := [], laidByText := true, laidKinds := [.data, .data, .data], laidTests := true, laidLooks := .later }
def NegotiateWinnersUptoCardSaid : Prop := Claim7.holds Tryd.pinned (.plain (OpenSpec.upto negotiateWinnersSpec)) negotiateWinnersUptoCard
end Rows
end Go.Proofs.YtjcmgfegnngjjaaDoor
