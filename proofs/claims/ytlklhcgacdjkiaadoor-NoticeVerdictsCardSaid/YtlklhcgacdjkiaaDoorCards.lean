/-
  DERIVED. GIVEN WITH THE SEED: THE CARDS: each row of YtlklhcgacdjkiaaDoorRows.lean that lists a variable, with what it lists TIED to the program's text (the seventh form; the later family's looks); each row that meets fmt, with fmt's text TOLD by the authors' own Lean function (tested against real Go, not proved from fmt's source: count such statements apart). THE CARD IS WHAT COUNTS. Prove the row's statement (the work); the ties are given (YtlklhcgacdjkiaaDoorTie.lean); close each card by the builder's one call (the guide's Derived/Test/ToyasCard.lean, 'card_holds'). Laid BY PROGRAM, IN A SANDBOX (cutbox-door.mjs). By AI agents, Wed Nov 11 2026. No macro, syntax, notation, axiom, sorry.
-/
import Derived.Test.YtlklhcgacdjkiaaDoorRows
import GoSem.ClaimSeven
namespace Go.Proofs.YtlklhcgacdjkiaaDoor
namespace Rows

/-- THE TIED CARD OF 'peeragelaw18.NoticeNames'. -/
def noticeNamesCard : Claim7 := { stood := { row := noticeNamesRow, standIns := [], harness := (true, "071d73849a26093298cacf39324a597d0eb11d6e5848a578ecddeb26447fa1a9"), looks := false }, kinds := [], alts := [], laidByText := true, laidKinds := [.data, .data, .data, .data], laidTests := true, laidLooks := .later }
def NoticeNamesCardSaid : Prop := Claim7.holds Tryd.pinned (.plain (OpenSpec.ofChange noticeNamesSpec)) noticeNamesCard

/-- THE TIED CARD OF 'peeragelaw18.NoticeVerdicts'. -/
def noticeVerdictsCard : Claim7 := { stood := { row := noticeVerdictsRow, standIns := [], harness := (true, "071d73849a26093298cacf39324a597d0eb11d6e5848a578ecddeb26447fa1a9"), looks := false }, kinds := [], alts := [], laidByText := true, laidKinds := [.data, .data, .data, .data], laidTests := true, laidLooks := .later }
def NoticeVerdictsCardSaid : Prop := Claim7.holds Tryd.pinned (.plain (OpenSpec.ofChange noticeVerdictsSpec)) noticeVerdictsCard

/-- THE TIED CARD OF 'peeragelaw18.NoticeSame'. -/
def noticeSameCard : Claim7 := { stood := { row := noticeSameRow, standIns := [], harness := (true, "071d73849a26093298cacf39324a597d0eb11d6e5848a578ecddeb26447fa1a9"), looks := false }, kinds := [], alts := [], laidByText := true, laidKinds := [.data, .data, .data, .data], laidTests := true, laidLooks := .later }
def NoticeSameCardSaid : Prop := Claim7.holds Tryd.pinned (.plain (OpenSpec.ofChange noticeSameSpec)) noticeSameCard

/-- THE TIED CARD OF 'peeragelaw18.NoticeForms'. -/
def noticeFormsCard : Claim7 := { stood := { row := noticeFormsRow, standIns := [], harness := (true, "071d73849a26093298cacf39324a597d0eb11d6e5848a578ecddeb26447fa1a9"), looks := false }, kinds := [], alts := [], laidByText := true, laidKinds := [.data, .data, .data, .data], laidTests := true, laidLooks := .later }
def NoticeFormsCardSaid : Prop := Claim7.holds Tryd.pinned (.plain (OpenSpec.ofChange noticeFormsSpec)) noticeFormsCard

/-- THE TIED CARD OF 'peeragelaw18.NoticeParses'. -/
def noticeParsesCard : Claim7 := { stood := { row := noticeParsesRow, standIns := [], harness := (true, "071d73849a26093298cacf39324a597d0eb11d6e5848a578ecddeb26447fa1a9"), looks := false }, kinds := [], alts := [], laidByText := true, laidKinds := [.data, .data, .data, .data], laidTests := true, laidLooks := .later }
def NoticeParsesCardSaid : Prop := Claim7.holds Tryd.pinned (.plain (OpenSpec.ofChange noticeParsesSpec)) noticeParsesCard

/-- THE SECOND FORM's CARD OF 'peeragelaw18.NoticeNames'. -/
def noticeNamesUptoCard : Claim7 := { stood := { row := noticeNamesUptoRow, standIns := [], harness := (true, "071d73849a26093298cacf39324a597d0eb11d6e5848a578ecddeb26447fa1a9"), looks := false }, kinds := [], alts := [], laidByText := true, laidKinds := [.data, .data, .data, .data], laidTests := true, laidLooks := .later }
def NoticeNamesUptoCardSaid : Prop := Claim7.holds Tryd.pinned (.plain (OpenSpec.upto noticeNamesSpec)) noticeNamesUptoCard

/-- THE SECOND FORM's CARD OF 'peeragelaw18.NoticeVerdicts'. -/
def noticeVerdictsUptoCard : Claim7 := { stood := { row := noticeVerdictsUptoRow, standIns := [], harness := (true, "071d73849a26093298cacf39324a597d0eb11d6e5848a578ecddeb26447fa1a9"), looks := false }, kinds := [], alts := [], laidByText := true, laidKinds := [.data, .data, .data, .data], laidTests := true, laidLooks := .later }
def NoticeVerdictsUptoCardSaid : Prop := Claim7.holds Tryd.pinned (.plain (OpenSpec.upto noticeVerdictsSpec)) noticeVerdictsUptoCard

/-- THE SECOND FORM's CARD OF 'peeragelaw18.NoticeSame'. -/
def noticeSameUptoCard : Claim7 := { stood := { row := noticeSameUptoRow, standIns := [], harness := (true, "071d73849a26093298cacf39324a597d0eb11d6e5848a578ecddeb26447fa1a9"), looks := false }, kinds := [], alts := [], laidByText := true, laidKinds := [.data, .data, .data, .data], laidTests := true, laidLooks := .later }
def NoticeSameUptoCardSaid : Prop := Claim7.holds Tryd.pinned (.plain (OpenSpec.upto noticeSameSpec)) noticeSameUptoCard

/-- THE SECOND FORM's CARD OF 'peeragelaw18.NoticeForms'. -/
def noticeFormsUptoCard : Claim7 := { stood := { row := noticeFormsUptoRow, standIns := [], harness := (true, "071d73849a26093298cacf39324a597d0eb11d6e5848a578ecddeb26447fa1a9"), looks := false }, kinds := [], alts := [], laidByText := true, laidKinds := [.data, .data, .data, .data], laidTests := true, laidLooks := .later }
def NoticeFormsUptoCardSaid : Prop := Claim7.holds Tryd.pinned (.plain (OpenSpec.upto noticeFormsSpec)) noticeFormsUptoCard

/-- THE SECOND FORM's CARD OF 'peeragelaw18.NoticeParses'. -/
def noticeParsesUptoCard : Claim7 := { stood := { row := noticeParsesUptoRow, standIns := [], harness := (true, "071d73849a26093298cacf39324a597d0eb11d6e5848a578ecddeb26447fa1a9"), looks := false }, kinds := [], alts := [], laidByText := true, laidKinds := [.data, .data, .data, .data], laidTests := true, laidLooks := .later }
def NoticeParsesUptoCardSaid : Prop := Claim7.holds Tryd.pinned (.plain (OpenSpec.upto noticeParsesSpec)) noticeParsesUptoCard
end Rows
end Go.Proofs.YtlklhcgacdjkiaaDoor
