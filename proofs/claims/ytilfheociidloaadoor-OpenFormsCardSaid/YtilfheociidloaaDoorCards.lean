/-
  DERIVED. GIVEN WITH THE SEED: THE CARDS: each row of YtilfheociidloaaDoorRows.lean that lists a variable, with what it lists TIED to the program's text (the seventh form; the later family's looks); each row that meets fmt, with fmt's text TOLD by the authors' own Lean function (tested against real Go, not proved from fmt's source: count such statements apart). THE CARD IS WHAT COUNTS. Prove the row's statement (the work); the ties are given (YtilfheociidloaaDoorTie.lean); close each card by the builder's one call (the guide's Derived/Test/ToyasCard.lean, 'card_holds'). Laid BY PROGRAM, IN A SANDBOX (cutbox-door.mjs). By AI agents, Wed Nov 11 2026. No macro, syntax, notation, axiom, sorry.
-/
import Derived.Test.YtilfheociidloaaDoorRows
import GoSem.ClaimSeven
namespace Go.Proofs.YtilfheociidloaaDoor
namespace Rows

/-- THE TIED CARD OF 'peeragelaw17.OpenForms'. -/
def openFormsCard : Claim7 := { stood := { row := openFormsRow, standIns := [], harness := (true, "8c1448f2211ee97378e712af82fd3b1de911f6dce1cdd8813d60b69956e5d54d"), looks := false }, kinds := [], alts := [], laidByText := true, laidKinds := [.data, .data, .data], laidTests := true, laidLooks := .later }
def OpenFormsCardSaid : Prop := Claim7.holds Tryd.pinned (.plain (OpenSpec.ofChange openFormsSpec)) openFormsCard

/-- THE SECOND FORM's CARD OF 'peeragelaw17.OpenForms'. -/
def openFormsUptoCard : Claim7 := { stood := { row := openFormsUptoRow, standIns := [], harness := (true, "8c1448f2211ee97378e712af82fd3b1de911f6dce1cdd8813d60b69956e5d54d"), looks := false }, kinds := [], alts := [], laidByText := true, laidKinds := [.data, .data, .data], laidTests := true, laidLooks := .later }
def OpenFormsUptoCardSaid : Prop := Claim7.holds Tryd.pinned (.plain (OpenSpec.upto openFormsSpec)) openFormsUptoCard
end Rows
end Go.Proofs.YtilfheociidloaaDoor
