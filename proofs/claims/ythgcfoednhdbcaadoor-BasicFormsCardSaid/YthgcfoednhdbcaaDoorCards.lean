/-
  DERIVED. GIVEN WITH THE SEED: THE CARDS: each row of YthgcfoednhdbcaaDoorRows.lean that lists a variable, with what it lists TIED to the program's text (the seventh form; the later family's looks); each row that meets fmt, with fmt's text TOLD by the authors' own Lean function (tested against real Go, not proved from fmt's source: count such statements apart). THE CARD IS WHAT COUNTS. Prove the row's statement (the work); the ties are given (YthgcfoednhdbcaaDoorTie.lean); close each card by the builder's one call (the guide's Derived/Test/ToyasCard.lean, 'card_holds'). Laid BY PROGRAM, IN A SANDBOX (cutbox-door.mjs). By AI agents, Wed Nov 11 2026. No macro, syntax, notation, axiom, sorry.
-/
import Derived.Test.YthgcfoednhdbcaaDoorRows
import GoSem.ClaimSeven
namespace Go.Proofs.YthgcfoednhdbcaaDoor
namespace Rows

/-- THE TIED CARD OF 'peeragelaw07.BasicPlain'. -/
def basicPlainCard : Claim7 := { stood := { row := basicPlainRow, standIns := [], harness := (true, "f5f42e14fe12030ab6db33f1ce3dd8f7d6d2c189dc91f7d214b159d7443d1fb4"), looks := false }, kinds := [], alts := [], laidByText := true, laidKinds := [.data, .data, .data], laidTests := true, laidLooks := .later }
def BasicPlainCardSaid : Prop := Claim7.holds Tryd.pinned (.plain (OpenSpec.ofChange basicPlainSpec)) basicPlainCard

/-- THE TIED CARD OF 'peeragelaw07.BasicApart'. -/
def basicApartCard : Claim7 := { stood := { row := basicApartRow, standIns := [], harness := (true, "f5f42e14fe12030ab6db33f1ce3dd8f7d6d2c189dc91f7d214b159d7443d1fb4"), looks := false }, kinds := [], alts := [], laidByText := true, laidKinds := [.data, .data, .data], laidTests := true, laidLooks := .later }
def BasicApartCardSaid : Prop := Claim7.holds Tryd.pinned (.plain (OpenSpec.ofChange basicApartSpec)) basicApartCard

/-- THE TIED CARD OF 'peeragelaw07.BasicLengths'. -/
def basicLengthsCard : Claim7 := { stood := { row := basicLengthsRow, standIns := [], harness := (true, "f5f42e14fe12030ab6db33f1ce3dd8f7d6d2c189dc91f7d214b159d7443d1fb4"), looks := false }, kinds := [], alts := [], laidByText := true, laidKinds := [.data, .data, .data], laidTests := true, laidLooks := .later }
def BasicLengthsCardSaid : Prop := Claim7.holds Tryd.pinned (.plain (OpenSpec.ofChange basicLengthsSpec)) basicLengthsCard

/-- THE TIED CARD OF 'peeragelaw07.BasicReads'. -/
def basicReadsCard : Claim7 := { stood := { row := basicReadsRow, standIns := [], harness := (true, "f5f42e14fe12030ab6db33f1ce3dd8f7d6d2c189dc91f7d214b159d7443d1fb4"), looks := false }, kinds := [], alts := [], laidByText := true, laidKinds := [.data, .data, .data], laidTests := true, laidLooks := .later }
def BasicReadsCardSaid : Prop := Claim7.holds Tryd.pinned (.plain (OpenSpec.ofChange basicReadsSpec)) basicReadsCard

/-- THE TIED CARD OF 'peeragelaw07.BasicForms'. -/
def basicFormsCard : Claim7 := { stood := { row := basicFormsRow, standIns := [], harness := (true, "f5f42e14fe12030ab6db33f1ce3dd8f7d6d2c189dc91f7d214b159d7443d1fb4"), looks := false }, kinds := [], alts := [], laidByText := true, laidKinds := [.data, .data, .data], laidTests := true, laidLooks := .later }
def BasicFormsCardSaid : Prop := Claim7.holds Tryd.pinned (.plain (OpenSpec.ofChange basicFormsSpec)) basicFormsCard

/-- THE SECOND FORM's CARD OF 'peeragelaw07.BasicPlain'. -/
def basicPlainUptoCard : Claim7 := { stood := { row := basicPlainUptoRow, standIns := [], harness := (true, "f5f42e14fe12030ab6db33f1ce3dd8f7d6d2c189dc91f7d214b159d7443d1fb4"), looks := false }, kinds := [], alts := [], laidByText := true, laidKinds := [.data, .data, .data], laidTests := true, laidLooks := .later }
def BasicPlainUptoCardSaid : Prop := Claim7.holds Tryd.pinned (.plain (OpenSpec.upto basicPlainSpec)) basicPlainUptoCard

/-- THE SECOND FORM's CARD OF 'peeragelaw07.BasicApart'. -/
def basicApartUptoCard : Claim7 := { stood := { row := basicApartUptoRow, standIns := [], harness := (true, "f5f42e14fe12030ab6db33f1ce3dd8f7d6d2c189dc91f7d214b159d7443d1fb4"), looks := false }, kinds := [], alts := [], laidByText := true, laidKinds := [.data, .data, .data], laidTests := true, laidLooks := .later }
def BasicApartUptoCardSaid : Prop := Claim7.holds Tryd.pinned (.plain (OpenSpec.upto basicApartSpec)) basicApartUptoCard

/-- THE SECOND FORM's CARD OF 'peeragelaw07.BasicLengths'. -/
def basicLengthsUptoCard : Claim7 := { stood := { row := basicLengthsUptoRow, standIns := [], harness := (true, "f5f42e14fe12030ab6db33f1ce3dd8f7d6d2c189dc91f7d214b159d7443d1fb4"), looks := false }, kinds := [], alts := [], laidByText := true, laidKinds := [.data, .data, .data], laidTests := true, laidLooks := .later }
def BasicLengthsUptoCardSaid : Prop := Claim7.holds Tryd.pinned (.plain (OpenSpec.upto basicLengthsSpec)) basicLengthsUptoCard

/-- THE SECOND FORM's CARD OF 'peeragelaw07.BasicReads'. -/
def basicReadsUptoCard : Claim7 := { stood := { row := basicReadsUptoRow, standIns := [], harness := (true, "f5f42e14fe12030ab6db33f1ce3dd8f7d6d2c189dc91f7d214b159d7443d1fb4"), looks := false }, kinds := [], alts := [], laidByText := true, laidKinds := [.data, .data, .data], laidTests := true, laidLooks := .later }
def BasicReadsUptoCardSaid : Prop := Claim7.holds Tryd.pinned (.plain (OpenSpec.upto basicReadsSpec)) basicReadsUptoCard

/-- THE SECOND FORM's CARD OF 'peeragelaw07.BasicForms'. -/
def basicFormsUptoCard : Claim7 := { stood := { row := basicFormsUptoRow, standIns := [], harness := (true, "f5f42e14fe12030ab6db33f1ce3dd8f7d6d2c189dc91f7d214b159d7443d1fb4"), looks := false }, kinds := [], alts := [], laidByText := true, laidKinds := [.data, .data, .data], laidTests := true, laidLooks := .later }
def BasicFormsUptoCardSaid : Prop := Claim7.holds Tryd.pinned (.plain (OpenSpec.upto basicFormsSpec)) basicFormsUptoCard
end Rows
end Go.Proofs.YthgcfoednhdbcaaDoor
