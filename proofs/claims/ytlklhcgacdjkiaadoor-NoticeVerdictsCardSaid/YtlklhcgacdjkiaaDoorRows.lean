/-
  NARROWER THAN 'FOR EVERY INPUT', by the rows' own cells (each row's printed sentence says how): NoticeNames: laid · NoticeVerdicts: laid · NoticeSame: laid · NoticeForms: laid · NoticeParses: laid.
  DERIVED. THE GIVEN ROWS OF THIS SEAT. 5 by the template 'for every input the law returns true; each argument reads behind the call as it read before'; 0 by the template 'total and deterministic' (their statements: YtlklhcgacdjkiaaDoorTotals.lean).
  GIVEN WITH THE SEED: the statements are not yours to turn. If you find one false, say at which input.
  Laid BY PROGRAM, IN A SANDBOX (cutbox-rows.mjs): the forced cells as the released guide's own fill.sh prints them over the translation 0380596b9dbf8e1c… (all of the seat's roots in one cut). By AI agents, Wed Nov 11 2026. No macro, syntax, notation, axiom, sorry.
-/
import Derived.Test.YtlklhcgacdjkiaaDoorChecked
import GoSem.Claim
import GoSem.ClaimJoined
import GoSem.ClaimMapViews
import Derived.JoinedTies
import Derived.KernelRfl
namespace Go.Proofs.YtlklhcgacdjkiaaDoor
/- THE CELL 'sum', in the pinned program and in every row, IS THE sha256 OF THE DUMP (.gsa) THAT YtlklhcgacdjkiaaDoorProg.lean LOADS. Nothing in Lean hashes anything: it is a label: what it is worth is what the hold of that sum in a sandbox is worth. -/
noncomputable def Tryd.pinned : Pinned := { name := "ytlklhcgacdjkiaadoor", sum := "0380596b9dbf8e1c939ef1e7af02a2eb23578e32740c95306ae1af25a20a2cd6", checked := Tryd.checked }
namespace Rows
def none {H : Type} : Left H := { results := [], args := [] }

/- WHAT THE LISTED PACKAGE-LEVEL VARIABLES READ AS WHEN THE CALL BEGINS. Each datum BY PROGRAM (the guide's laid-datum.mjs) off the statement by which the dump's own 'gosem.cut.vars' lays the variable. In a bare row this is a premise. The card (YtlklhcgacdjkiaaDoorCards.lean) ties it to the program's text. -/
def laid_math_bits_deBruijn32tab {H : Type} : DataW H := .agg [.lit (.int .u8 0), .lit (.int .u8 1), .lit (.int .u8 28), .lit (.int .u8 2), .lit (.int .u8 29), .lit (.int .u8 14), .lit (.int .u8 24), .lit (.int .u8 3), .lit (.int .u8 30), .lit (.int .u8 22), .lit (.int .u8 20), .lit (.int .u8 15), .lit (.int .u8 25), .lit (.int .u8 17), .lit (.int .u8 4), .lit (.int .u8 8), .lit (.int .u8 31), .lit (.int .u8 27), .lit (.int .u8 13), .lit (.int .u8 23), .lit (.int .u8 21), .lit (.int .u8 19), .lit (.int .u8 16), .lit (.int .u8 7), .lit (.int .u8 26), .lit (.int .u8 12), .lit (.int .u8 18), .lit (.int .u8 6), .lit (.int .u8 11), .lit (.int .u8 5), .lit (.int .u8 10), .lit (.int .u8 9)]
def laid_math_bits_deBruijn64tab {H : Type} : DataW H := .agg [.lit (.int .u8 0), .lit (.int .u8 1), .lit (.int .u8 56), .lit (.int .u8 2), .lit (.int .u8 57), .lit (.int .u8 49), .lit (.int .u8 28), .lit (.int .u8 3), .lit (.int .u8 61), .lit (.int .u8 58), .lit (.int .u8 42), .lit (.int .u8 50), .lit (.int .u8 38), .lit (.int .u8 29), .lit (.int .u8 17), .lit (.int .u8 4), .lit (.int .u8 62), .lit (.int .u8 47), .lit (.int .u8 59), .lit (.int .u8 36), .lit (.int .u8 45), .lit (.int .u8 43), .lit (.int .u8 51), .lit (.int .u8 22), .lit (.int .u8 53), .lit (.int .u8 39), .lit (.int .u8 33), .lit (.int .u8 30), .lit (.int .u8 24), .lit (.int .u8 18), .lit (.int .u8 12), .lit (.int .u8 5), .lit (.int .u8 63), .lit (.int .u8 55), .lit (.int .u8 48), .lit (.int .u8 27), .lit (.int .u8 60), .lit (.int .u8 41), .lit (.int .u8 37), .lit (.int .u8 16), .lit (.int .u8 46), .lit (.int .u8 35), .lit (.int .u8 44), .lit (.int .u8 21), .lit (.int .u8 52), .lit (.int .u8 32), .lit (.int .u8 23), .lit (.int .u8 11), .lit (.int .u8 54), .lit (.int .u8 26), .lit (.int .u8 40), .lit (.int .u8 15), .lit (.int .u8 34), .lit (.int .u8 20), .lit (.int .u8 31), .lit (.int .u8 10), .lit (.int .u8 25), .lit (.int .u8 14), .lit (.int .u8 19), .lit (.int .u8 9), .lit (.int .u8 13), .lit (.int .u8 8), .lit (.int .u8 7), .lit (.int .u8 6)]
def laid_internal_strconv_uint64pow10 {H : Type} : DataW H := .agg [.lit (.int .u64 1), .lit (.int .u64 10), .lit (.int .u64 100), .lit (.int .u64 1000), .lit (.int .u64 10000), .lit (.int .u64 100000), .lit (.int .u64 1000000), .lit (.int .u64 10000000), .lit (.int .u64 100000000), .lit (.int .u64 1000000000), .lit (.int .u64 10000000000), .lit (.int .u64 100000000000), .lit (.int .u64 1000000000000), .lit (.int .u64 10000000000000), .lit (.int .u64 100000000000000), .lit (.int .u64 1000000000000000), .lit (.int .u64 10000000000000000), .lit (.int .u64 100000000000000000), .lit (.int .u64 1000000000000000000), .lit (.int .u64 10000000000000000000)]
def laid_peerage_notice_names {H : Type} : DataW H := .agg [.agg [.lit (.string []), .lit (.string []), .lit (.string []), .lit (.string []), .lit (.string []), .lit (.string []), .lit (.string []), .lit (.string []), .lit (.string []), .lit (.string []), .lit (.string []), .lit (.string [])], .agg [.lit (.string [104, 101, 97, 100, 101, 114]), .lit (.string [109, 97, 114, 107, 101, 114]), .lit (.string [108, 101, 110, 103, 116, 104]), .lit (.string [116, 121, 112, 101]), .lit (.string []), .lit (.string []), .lit (.string []), .lit (.string []), .lit (.string []), .lit (.string []), .lit (.string []), .lit (.string [])], .agg [.lit (.string [111, 112, 101, 110]), .lit (.string [118, 101, 114, 115, 105, 111, 110]), .lit (.string [112, 101, 101, 114]), .lit (.string [105, 100, 101, 110, 116, 105, 102, 105, 101, 114]), .lit (.string [112, 97, 114, 97, 109, 101, 116, 101, 114]), .lit (.string []), .lit (.string [104, 111, 108, 100]), .lit (.string []), .lit (.string []), .lit (.string []), .lit (.string []), .lit (.string [])], .agg [.lit (.string [117, 112, 100, 97, 116, 101]), .lit (.string [97, 116, 116, 114, 105, 98, 117, 116, 101, 115]), .lit (.string [117, 110, 114, 101, 99, 111, 103, 110, 105, 122, 101, 100]), .lit (.string [109, 105, 115, 115, 105, 110, 103]), .lit (.string [102, 108, 97, 103, 115]), .lit (.string [115, 105, 122, 101]), .lit (.string [111, 114, 105, 103, 105, 110]), .lit (.string []), .lit (.string [110, 101, 120, 116, 104, 111, 112]), .lit (.string [111, 112, 116, 105, 111, 110, 97, 108]), .lit (.string [110, 101, 116, 119, 111, 114, 107]), .lit (.string [112, 97, 116, 104])], .agg [.lit (.string [116, 105, 109, 101, 114]), .lit (.string []), .lit (.string []), .lit (.string []), .lit (.string []), .lit (.string []), .lit (.string []), .lit (.string []), .lit (.string []), .lit (.string []), .lit (.string []), .lit (.string [])], .agg [.lit (.string [115, 116, 97, 116, 101]), .lit (.string []), .lit (.string []), .lit (.string []), .lit (.string []), .lit (.string []), .lit (.string []), .lit (.string []), .lit (.string []), .lit (.string []), .lit (.string []), .lit (.string [])], .agg [.lit (.string [99, 101, 97, 115, 101]), .lit (.string []), .lit (.string []), .lit (.string []), .lit (.string []), .lit (.string []), .lit (.string []), .lit (.string []), .lit (.string []), .lit (.string []), .lit (.string []), .lit (.string [])]]

/-- 'peeragelaw18.NoticeNames': WHATEVER THE INPUT: true; the input reads as it did. -/
def noticeNamesSpec : ChangeSpec := { name := "noticeNames", fn := fun _ => fun
  | [d1, d2] => { results := [.lit (.bool true)], args := [d1, d2] }
  | _ => none }
def noticeNamesRow : OpenClaim := { program := "ytlklhcgacdjkiaadoor", sum := "0380596b9dbf8e1c939ef1e7af02a2eb23578e32740c95306ae1af25a20a2cd6", func := "peerage/peeragelaw18.NoticeNames", spec := "noticeNames", named := ["peerage/notice.names", "internal/strconv.uint64pow10", "math/bits.deBruijn32tab", "math/bits.deBruijn64tab"], apart := false, laid := [("math/bits.deBruijn32tab", laid_math_bits_deBruijn32tab), ("math/bits.deBruijn64tab", laid_math_bits_deBruijn64tab), ("internal/strconv.uint64pow10", laid_internal_strconv_uint64pow10), ("peerage/notice.names", laid_peerage_notice_names)] }
def NoticeNamesSaid : Prop := noticeNamesRow.holds Tryd.pinned (OpenSpec.ofChange noticeNamesSpec)

/-- ITS FALSE NEIGHBOUR: 'it returns false'. Refute it at one input. -/
def noticeNamesWrong : ChangeSpec := { name := "noticeNames", fn := fun _ => fun
  | [d1, d2] => { results := [.lit (.bool false)], args := [d1, d2] }
  | _ => none }
def NoticeNamesWrongFalsely : Prop := noticeNamesRow.holds Tryd.pinned (OpenSpec.ofChange noticeNamesWrong)

/-- 'peeragelaw18.NoticeVerdicts': WHATEVER THE INPUT: true; the input reads as it did. -/
def noticeVerdictsSpec : ChangeSpec := { name := "noticeVerdicts", fn := fun _ => fun
  | [d1, d2, d3] => { results := [.lit (.bool true)], args := [d1, d2, d3] }
  | _ => none }
def noticeVerdictsRow : OpenClaim := { program := "ytlklhcgacdjkiaadoor", sum := "0380596b9dbf8e1c939ef1e7af02a2eb23578e32740c95306ae1af25a20a2cd6", func := "peerage/peeragelaw18.NoticeVerdicts", spec := "noticeVerdicts", named := ["peerage/notice.names", "internal/strconv.uint64pow10", "math/bits.deBruijn32tab", "math/bits.deBruijn64tab"], apart := false, laid := [("math/bits.deBruijn32tab", laid_math_bits_deBruijn32tab), ("math/bits.deBruijn64tab", laid_math_bits_deBruijn64tab), ("internal/strconv.uint64pow10", laid_internal_strconv_uint64pow10), ("peerage/notice.names", laid_peerage_notice_names)] }
def NoticeVerdictsSaid : Prop := noticeVerdictsRow.holds Tryd.pinned (OpenSpec.ofChange noticeVerdictsSpec)

/-- ITS FALSE NEIGHBOUR: 'it returns false'. Refute it at one input. -/
def noticeVerdictsWrong : ChangeSpec := { name := "noticeVerdicts", fn := fun _ => fun
  | [d1, d2, d3] => { results := [.lit (.bool false)], args := [d1, d2, d3] }
  | _ => none }
def NoticeVerdictsWrongFalsely : Prop := noticeVerdictsRow.holds Tryd.pinned (OpenSpec.ofChange noticeVerdictsWrong)

/-- 'peeragelaw18.NoticeSame': WHATEVER THE INPUT: true; the input reads as it did. -/
def noticeSameSpec : ChangeSpec := { name := "noticeSame", fn := fun _ => fun
  | [d1, d2] => { results := [.lit (.bool true)], args := [d1, d2] }
  | _ => none }
def noticeSameRow : OpenClaim := { program := "ytlklhcgacdjkiaadoor", sum := "0380596b9dbf8e1c939ef1e7af02a2eb23578e32740c95306ae1af25a20a2cd6", func := "peerage/peeragelaw18.NoticeSame", spec := "noticeSame", named := ["peerage/notice.names", "internal/strconv.uint64pow10", "math/bits.deBruijn32tab", "math/bits.deBruijn64tab"], apart := false, laid := [("math/bits.deBruijn32tab", laid_math_bits_deBruijn32tab), ("math/bits.deBruijn64tab", laid_math_bits_deBruijn64tab), ("internal/strconv.uint64pow10", laid_internal_strconv_uint64pow10), ("peerage/notice.names", laid_peerage_notice_names)] }
def NoticeSameSaid : Prop := noticeSameRow.holds Tryd.pinned (OpenSpec.ofChange noticeSameSpec)

/-- ITS FALSE NEIGHBOUR: 'it returns false'. Refute it at one input. -/
def noticeSameWrong : ChangeSpec := { name := "noticeSame", fn := fun _ => fun
  | [d1, d2] => { results := [.lit (.bool false)], args := [d1, d2] }
  | _ => none }
def NoticeSameWrongFalsely : Prop := noticeSameRow.holds Tryd.pinned (OpenSpec.ofChange noticeSameWrong)

/-- 'peeragelaw18.NoticeForms': WHATEVER THE INPUT: true; the input reads as it did. -/
def noticeFormsSpec : ChangeSpec := { name := "noticeForms", fn := fun _ => fun
  | [d] => { results := [.lit (.bool true)], args := [d] }
  | _ => none }
def noticeFormsRow : OpenClaim := { program := "ytlklhcgacdjkiaadoor", sum := "0380596b9dbf8e1c939ef1e7af02a2eb23578e32740c95306ae1af25a20a2cd6", func := "peerage/peeragelaw18.NoticeForms", spec := "noticeForms", named := ["peerage/notice.names", "internal/strconv.uint64pow10", "math/bits.deBruijn32tab", "math/bits.deBruijn64tab"], apart := false, laid := [("math/bits.deBruijn32tab", laid_math_bits_deBruijn32tab), ("math/bits.deBruijn64tab", laid_math_bits_deBruijn64tab), ("internal/strconv.uint64pow10", laid_internal_strconv_uint64pow10), ("peerage/notice.names", laid_peerage_notice_names)] }
def NoticeFormsSaid : Prop := noticeFormsRow.holds Tryd.pinned (OpenSpec.ofChange noticeFormsSpec)

/-- ITS FALSE NEIGHBOUR: 'it returns false'. Refute it at one input. -/
def noticeFormsWrong : ChangeSpec := { name := "noticeForms", fn := fun _ => fun
  | [d] => { results := [.lit (.bool false)], args := [d] }
  | _ => none }
def NoticeFormsWrongFalsely : Prop := noticeFormsRow.holds Tryd.pinned (OpenSpec.ofChange noticeFormsWrong)

/-- 'peeragelaw18.NoticeParses': WHATEVER THE INPUT: true; the input reads as it did. -/
def noticeParsesSpec : ChangeSpec := { name := "noticeParses", fn := fun _ => fun
  | [d] => { results := [.lit (.bool true)], args := [d] }
  | _ => none }
def noticeParsesRow : OpenClaim := { program := "ytlklhcgacdjkiaadoor", sum := "0380596b9dbf8e1c939ef1e7af02a2eb23578e32740c95306ae1af25a20a2cd6", func := "peerage/peeragelaw18.NoticeParses", spec := "noticeParses", named := ["peerage/notice.names", "internal/strconv.uint64pow10", "math/bits.deBruijn32tab", "math/bits.deBruijn64tab"], apart := false, laid := [("math/bits.deBruijn32tab", laid_math_bits_deBruijn32tab), ("math/bits.deBruijn64tab", laid_math_bits_deBruijn64tab), ("internal/strconv.uint64pow10", laid_internal_strconv_uint64pow10), ("peerage/notice.names", laid_peerage_notice_names)] }
def NoticeParsesSaid : Prop := noticeParsesRow.holds Tryd.pinned (OpenSpec.ofChange noticeParsesSpec)

/-- ITS FALSE NEIGHBOUR: 'it returns false'. Refute it at one input. -/
def noticeParsesWrong : ChangeSpec := { name := "noticeParses", fn := fun _ => fun
  | [d] => { results := [.lit (.bool false)], args := [d] }
  | _ => none }
def NoticeParsesWrongFalsely : Prop := noticeParsesRow.holds Tryd.pinned (OpenSpec.ofChange noticeParsesWrong)

/- THE SECOND FORM. 'bulk': how many values and letters a reading holds, each counted each time it is reached (what is shared counts as often as it is met; a slice's spare places count too). A statement '..UptoSaid' is the law's where the arguments, and the package variables that the reading takes, are together of bulk at most 1048576: NARROWER than '..Said'. Prove '..Said' where nothing that the law and all that it calls make is longer than what came in: it says more and counts as full. Else prove '..UptoSaid'. A law counts once. -/
mutual
def uptoBulk {H : Type} : DataW H → Nat
  | .lit (.string bytes) => bytes.length + 1
  | .lit _ => 1
  | .nil => 1
  | .ptr d => uptoBulk d + 1
  | .slice elems spare => uptoBulkAll elems + uptoBulkAll spare + 1
  | .agg parts => uptoBulkAll parts + 1
  | .iface _ d => uptoBulk d + 1
  | .map entries => uptoBulkEntries entries + 1
  | .held _ => 1
def uptoBulkAll {H : Type} : List (DataW H) → Nat
  | [] => 0
  | d :: r => uptoBulk d + uptoBulkAll r
def uptoBulkEntries {H : Type} : List (Lit × DataW H) → Nat
  | [] => 0
  | x :: r => uptoBulkEntry x + uptoBulkEntries r
def uptoBulkEntry {H : Type} : Lit × DataW H → Nat
  | (.string bytes, d) => bytes.length + uptoBulk d + 1
  | (_, d) => uptoBulk d + 1
 end
def uptoSmall : (H : Type) → List (DataW H) → Bool := fun _ ds => decide (uptoBulkAll ds ≤ 1048576)
def OpenSpec.upto (s : _root_.Go.ChangeSpec) : _root_.Go.OpenSpec := { _root_.Go.OpenSpec.ofChange s with cond := some uptoSmall }

/-- 'peeragelaw18.NoticeNames', WHERE WHAT IT READS IS OF BULK AT MOST 1048576: true; the input reads as it did. -/
def noticeNamesUptoRow : OpenClaim := { program := "ytlklhcgacdjkiaadoor", sum := "0380596b9dbf8e1c939ef1e7af02a2eb23578e32740c95306ae1af25a20a2cd6", func := "peerage/peeragelaw18.NoticeNames", spec := "noticeNames", named := ["peerage/notice.names", "internal/strconv.uint64pow10", "math/bits.deBruijn32tab", "math/bits.deBruijn64tab"], apart := false, laid := [("math/bits.deBruijn32tab", laid_math_bits_deBruijn32tab), ("math/bits.deBruijn64tab", laid_math_bits_deBruijn64tab), ("internal/strconv.uint64pow10", laid_internal_strconv_uint64pow10), ("peerage/notice.names", laid_peerage_notice_names)], narrowed := true }
def NoticeNamesUptoSaid : Prop := noticeNamesUptoRow.holds Tryd.pinned (OpenSpec.upto noticeNamesSpec)

/-- 'peeragelaw18.NoticeVerdicts', WHERE WHAT IT READS IS OF BULK AT MOST 1048576: true; the input reads as it did. -/
def noticeVerdictsUptoRow : OpenClaim := { program := "ytlklhcgacdjkiaadoor", sum := "0380596b9dbf8e1c939ef1e7af02a2eb23578e32740c95306ae1af25a20a2cd6", func := "peerage/peeragelaw18.NoticeVerdicts", spec := "noticeVerdicts", named := ["peerage/notice.names", "internal/strconv.uint64pow10", "math/bits.deBruijn32tab", "math/bits.deBruijn64tab"], apart := false, laid := [("math/bits.deBruijn32tab", laid_math_bits_deBruijn32tab), ("math/bits.deBruijn64tab", laid_math_bits_deBruijn64tab), ("internal/strconv.uint64pow10", laid_internal_strconv_uint64pow10), ("peerage/notice.names", laid_peerage_notice_names)], narrowed := true }
def NoticeVerdictsUptoSaid : Prop := noticeVerdictsUptoRow.holds Tryd.pinned (OpenSpec.upto noticeVerdictsSpec)

/-- 'peeragelaw18.NoticeSame', WHERE WHAT IT READS IS OF BULK AT MOST 1048576: true; the input reads as it did. -/
def noticeSameUptoRow : OpenClaim := { program := "ytlklhcgacdjkiaadoor", sum := "0380596b9dbf8e1c939ef1e7af02a2eb23578e32740c95306ae1af25a20a2cd6", func := "peerage/peeragelaw18.NoticeSame", spec := "noticeSame", named := ["peerage/notice.names", "internal/strconv.uint64pow10", "math/bits.deBruijn32tab", "math/bits.deBruijn64tab"], apart := false, laid := [("math/bits.deBruijn32tab", laid_math_bits_deBruijn32tab), ("math/bits.deBruijn64tab", laid_math_bits_deBruijn64tab), ("internal/strconv.uint64pow10", laid_internal_strconv_uint64pow10), ("peerage/notice.names", laid_peerage_notice_names)], narrowed := true }
def NoticeSameUptoSaid : Prop := noticeSameUptoRow.holds Tryd.pinned (OpenSpec.upto noticeSameSpec)

/-- 'peeragelaw18.NoticeForms', WHERE WHAT IT READS IS OF BULK AT MOST 1048576: true; the input reads as it did. -/
def noticeFormsUptoRow : OpenClaim := { program := "ytlklhcgacdjkiaadoor", sum := "0380596b9dbf8e1c939ef1e7af02a2eb23578e32740c95306ae1af25a20a2cd6", func := "peerage/peeragelaw18.NoticeForms", spec := "noticeForms", named := ["peerage/notice.names", "internal/strconv.uint64pow10", "math/bits.deBruijn32tab", "math/bits.deBruijn64tab"], apart := false, laid := [("math/bits.deBruijn32tab", laid_math_bits_deBruijn32tab), ("math/bits.deBruijn64tab", laid_math_bits_deBruijn64tab), ("internal/strconv.uint64pow10", laid_internal_strconv_uint64pow10), ("peerage/notice.names", laid_peerage_notice_names)], narrowed := true }
def NoticeFormsUptoSaid : Prop := noticeFormsUptoRow.holds Tryd.pinned (OpenSpec.upto noticeFormsSpec)

/-- 'peeragelaw18.NoticeParses', WHERE WHAT IT READS IS OF BULK AT MOST 1048576: true; the input reads as it did. -/
def noticeParsesUptoRow : OpenClaim := { program := "ytlklhcgacdjkiaadoor", sum := "0380596b9dbf8e1c939ef1e7af02a2eb23578e32740c95306ae1af25a20a2cd6", func := "peerage/peeragelaw18.NoticeParses", spec := "noticeParses", named := ["peerage/notice.names", "internal/strconv.uint64pow10", "math/bits.deBruijn32tab", "math/bits.deBruijn64tab"], apart := false, laid := [("math/bits.deBruijn32tab", laid_math_bits_deBruijn32tab), ("math/bits.deBruijn64tab", laid_math_bits_deBruijn64tab), ("internal/strconv.uint64pow10", laid_internal_strconv_uint64pow10), ("peerage/notice.names", laid_peerage_notice_names)], narrowed := true }
def NoticeParsesUptoSaid : Prop := noticeParsesUptoRow.holds Tryd.pinned (OpenSpec.upto noticeParsesSpec)

end Rows
end Go.Proofs.YtlklhcgacdjkiaaDoor
