/-
  DERIVED. GIVEN WITH THE SEED: THE CARDS: each row of YtffdjfnipnmlcaaDoorRows.lean that lists a variable, with what it lists TIED to the program's text (the seventh form; the later family's looks); each row that meets fmt, with fmt's text TOLD by the authors' own Lean function (tested against real Go, not proved from fmt's source: count such statements apart). THE CARD IS WHAT COUNTS. Prove the row's statement (the work); the ties are given (YtffdjfnipnmlcaaDoorTie.lean); close each card by the builder's one call (the guide's Derived/Test/ToyasCard.lean, 'card_holds'). Laid BY PROGRAM, IN A SANDBOX (cutbox-door.mjs). By AI agents, Wed Nov 11 2026. No macro, syntax, notation, axiom, sorry.
-/
import Derived.Test.YtffdjfnipnmlcaaDoorRows
import GoSem.ClaimSeven
namespace Go.Proofs.YtffdjfnipnmlcaaDoor
namespace Rows

/-- THE TIED CARD OF 'peeragelaw10.FlagNames'. -/
def flagNamesCard : Claim7 := { stood := { row := flagNamesRow, standIns := [], harness := (true, "38e7a6a9e567f22682bf7106db7167dd62791e6a997b861389557aca2b60b255"), looks := false }, kinds := [], alts := [], laidByText := true, laidKinds := [.data, .data, .data, .data], laidTests := true, laidLooks := .later }
def FlagNamesCardSaid : Prop := Claim7.holds Tryd.pinned (.plain (OpenSpec.ofChange flagNamesSpec)) flagNamesCard

/-- THE SECOND FORM's CARD OF 'peeragelaw10.FlagNames'. -/
def flagNamesUptoCard : Claim7 := { stood := { row := flagNamesUptoRow, standIns := [], harness := (true, "38e7a6a9e567f22682bf7106db7167dd62791e6a997b861389557aca2b60b255"), looks := false }, kinds := [], alts := [], laidByText := true, laidKinds := [.data, .data, .data, .data], laidTests := true, laidLooks := .later }
def FlagNamesUptoCardSaid : Prop := Claim7.holds Tryd.pinned (.plain (OpenSpec.upto flagNamesSpec)) flagNamesUptoCard
end Rows
end Go.Proofs.YtffdjfnipnmlcaaDoor
