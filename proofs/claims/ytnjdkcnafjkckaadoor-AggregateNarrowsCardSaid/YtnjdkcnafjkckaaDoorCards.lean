/-
  DERIVED. GIVEN WITH THE SEED: THE CARDS: each row of YtnjdkcnafjkckaaDoorRows.lean that lists a variable, with what it lists TIED to the program's text (the seventh form; the later family's looks); each row that meets fmt, with fmt's text TOLD by the authors' own Lean function (tested against real Go, not proved from fmt's source: count such statements apart). THE CARD IS WHAT COUNTS. Prove the row's statement (the work); the ties are given (YtnjdkcnafjkckaaDoorTie.lean); close each card by the builder's one call (the guide's Derived/Test/ToyasCard.lean, 'card_holds'). Laid BY PROGRAM, IN A SANDBOX (cutbox-door.mjs). By AI agents, Wed Nov 11 2026. No macro, syntax, notation, axiom, sorry.
-/
import Derived.Test.YtnjdkcnafjkckaaDoorRows
import GoSem.ClaimSeven
namespace Go.Proofs.YtnjdkcnafjkckaaDoor
namespace Rows

/-- THE TIED CARD OF 'peeragelaw08.AggregateMerges'. -/
def aggregateMergesCard : Claim7 := { stood := { row := aggregateMergesRow, standIns := [], harness := (true, "73be8313347aa7d8155bef3d0ab58e841cf0f94d02b57177717430ac828ebe2c"), looks := false }, kinds := [], alts := [], laidByText := true, laidKinds := [.data, .data, .data], laidTests := true, laidLooks := .later }
def AggregateMergesCardSaid : Prop := Claim7.holds Tryd.pinned (.plain (OpenSpec.ofChange aggregateMergesSpec)) aggregateMergesCard

/-- THE TIED CARD OF 'peeragelaw08.AggregateNarrows'. -/
def aggregateNarrowsCard : Claim7 := { stood := { row := aggregateNarrowsRow, standIns := [], harness := (true, "73be8313347aa7d8155bef3d0ab58e841cf0f94d02b57177717430ac828ebe2c"), looks := false }, kinds := [], alts := [], laidByText := true, laidKinds := [.data, .data, .data], laidTests := true, laidLooks := .later }
def AggregateNarrowsCardSaid : Prop := Claim7.holds Tryd.pinned (.plain (OpenSpec.ofChange aggregateNarrowsSpec)) aggregateNarrowsCard

/-- THE TIED CARD OF 'peeragelaw08.AggregateForms'. -/
def aggregateFormsCard : Claim7 := { stood := { row := aggregateFormsRow, standIns := [], harness := (true, "73be8313347aa7d8155bef3d0ab58e841cf0f94d02b57177717430ac828ebe2c"), looks := false }, kinds := [], alts := [], laidByText := true, laidKinds := [.data, .data, .data], laidTests := true, laidLooks := .later }
def AggregateFormsCardSaid : Prop := Claim7.holds Tryd.pinned (.plain (OpenSpec.ofChange aggregateFormsSpec)) aggregateFormsCard

/-- THE TIED CARD OF 'peeragelaw08.AggregateReads'. -/
def aggregateReadsCard : Claim7 := { stood := { row := aggregateReadsRow, standIns := [], harness := (true, "73be8313347aa7d8155bef3d0ab58e841cf0f94d02b57177717430ac828ebe2c"), looks := false }, kinds := [], alts := [], laidByText := true, laidKinds := [.data, .data, .data], laidTests := true, laidLooks := .later }
def AggregateReadsCardSaid : Prop := Claim7.holds Tryd.pinned (.plain (OpenSpec.ofChange aggregateReadsSpec)) aggregateReadsCard

/-- THE TIED CARD OF 'peeragelaw08.AggregateWidths'. -/
def aggregateWidthsCard : Claim7 := { stood := { row := aggregateWidthsRow, standIns := [], harness := (true, "73be8313347aa7d8155bef3d0ab58e841cf0f94d02b57177717430ac828ebe2c"), looks := false }, kinds := [], alts := [], laidByText := true, laidKinds := [.data, .data, .data], laidTests := true, laidLooks := .later }
def AggregateWidthsCardSaid : Prop := Claim7.holds Tryd.pinned (.plain (OpenSpec.ofChange aggregateWidthsSpec)) aggregateWidthsCard

/-- THE SECOND FORM's CARD OF 'peeragelaw08.AggregateMerges'. -/
def aggregateMergesUptoCard : Claim7 := { stood := { row := aggregateMergesUptoRow, standIns := [], harness := (true, "73be8313347aa7d8155bef3d0ab58e841cf0f94d02b57177717430ac828ebe2c"), looks := false }, kinds := [], alts := [], laidByText := true, laidKinds := [.data, .data, .data], laidTests := true, laidLooks := .later }
def AggregateMergesUptoCardSaid : Prop := Claim7.holds Tryd.pinned (.plain (OpenSpec.upto aggregateMergesSpec)) aggregateMergesUptoCard

/-- THE SECOND FORM's CARD OF 'peeragelaw08.AggregateNarrows'. -/
def aggregateNarrowsUptoCard : Claim7 := { stood := { row := aggregateNarrowsUptoRow, standIns := [], harness := (true, "73be8313347aa7d8155bef3d0ab58e841cf0f94d02b57177717430ac828ebe2c"), looks := false }, kinds := [], alts := [], laidByText := true, laidKinds := [.data, .data, .data], laidTests := true, laidLooks := .later }
def AggregateNarrowsUptoCardSaid : Prop := Claim7.holds Tryd.pinned (.plain (OpenSpec.upto aggregateNarrowsSpec)) aggregateNarrowsUptoCard

/-- THE SECOND FORM's CARD OF 'peeragelaw08.AggregateForms'. -/
def aggregateFormsUptoCard : Claim7 := { stood := { row := aggregateFormsUptoRow, standIns := [], harness := (true, "73be8313347aa7d8155bef3d0ab58e841cf0f94d02b57177717430ac828ebe2c"), looks := false }, kinds := [], alts := [], laidByText := true, laidKinds := [.data, .data, .data], laidTests := true, laidLooks := .later }
def AggregateFormsUptoCardSaid : Prop := Claim7.holds Tryd.pinned (.plain (OpenSpec.upto aggregateFormsSpec)) aggregateFormsUptoCard

/-- THE SECOND FORM's CARD OF 'peeragelaw08.AggregateReads'. -/
def aggregateReadsUptoCard : Claim7 := { stood := { row := aggregateReadsUptoRow, standIns := [], harness := (true, "73be8313347aa7d8155bef3d0ab58e841cf0f94d02b57177717430ac828ebe2c"), looks := false }, kinds := [], alts := [], laidByText := true, laidKinds := [.data, .data, .data], laidTests := true, laidLooks := .later }
def AggregateReadsUptoCardSaid : Prop := Claim7.holds Tryd.pinned (.plain (OpenSpec.upto aggregateReadsSpec)) aggregateReadsUptoCard

/-- THE SECOND FORM's CARD OF 'peeragelaw08.AggregateWidths'. -/
def aggregateWidthsUptoCard : Claim7 := { stood := { row := aggregateWidthsUptoRow, standIns := [], harness := (true, "73be8313347aa7d8155bef3d0ab58e841cf0f94d02b57177717430ac828ebe2c"), looks := false }, kinds := [], alts := [], laidByText := true, laidKinds := [.data, .data, .data], laidTests := true, laidLooks := .later }
def AggregateWidthsUptoCardSaid : Prop := Claim7.holds Tryd.pinned (.plain (OpenSpec.upto aggregateWidthsSpec)) aggregateWidthsUptoCard
end Rows
end Go.Proofs.YtnjdkcnafjkckaaDoor
