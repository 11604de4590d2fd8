/-
  NARROWER THAN 'FOR EVERY INPUT', by the rows' own cells (each row's printed sentence says how): FindingTexts: laid · FindingOrders: laid · FindingFolds: laid · FindingLogs: laid · FindingKeeps: laid.
  DERIVED. THE GIVEN ROWS OF THIS SEAT. 5 by the template 'for every input the law returns true; each argument reads behind the call as it read before'; 0 by the template 'total and deterministic' (their statements: YtknaogpkakdcoaaDoorTotals.lean).
  GIVEN WITH THE SEED: the statements are not yours to turn. If you find one false, say at which input.
  Laid BY PROGRAM, IN A SANDBOX (cutbox-rows.mjs): the forced cells as the released guide's own fill.sh prints them over the translation 264ff8c43de06935… (all of the seat's roots in one cut). By AI agents, Wed Nov 11 2026. No macro, syntax, notation, axiom, sorry.
-/
import Derived.Test.YtknaogpkakdcoaaDoorChecked
import GoSem.Claim
import GoSem.ClaimJoined
import GoSem.ClaimMapViews
import Derived.JoinedTies
import Derived.KernelRfl
namespace Go.Proofs.YtknaogpkakdcoaaDoor
/- THE CELL 'sum', in the pinned program and in every row, IS THE sha256 OF THE DUMP (.gsa) THAT YtknaogpkakdcoaaDoorProg.lean LOADS. Nothing in Lean hashes anything: it is a label: what it is worth is what the hold of that sum in a sandbox is worth. -/
noncomputable def Tryd.pinned : Pinned := { name := "ytknaogpkakdcoaadoor", sum := "264ff8c43de06935fe6c1e8bd69c6519006440594ecc7a410ed0be33b49e398a", checked := Tryd.checked }
namespace Rows
def none {H : Type} : Left H := { results := [], args := [] }

/- WHAT THE LISTED PACKAGE-LEVEL VARIABLES READ AS WHEN THE CALL BEGINS. Each datum BY PROGRAM (the guide's laid-datum.mjs) off the statement by which the dump's own 'gosem.cut.vars' lays the variable. In a bare row this is a premise. The card (YtknaogpkakdcoaaDoorCards.lean) ties it to the program's text. -/
def laid_math_bits_deBruijn32tab {H : Type} : DataW H := .agg [.lit (.int .u8 0), .lit (.int .u8 1), .lit (.int .u8 28), .lit (.int .u8 2), .lit (.int .u8 29), .lit (.int .u8 14), .lit (.int .u8 24), .lit (.int .u8 3), .lit (.int .u8 30), .lit (.int .u8 22), .lit (.int .u8 20), .lit (.int .u8 15), .lit (.int .u8 25), .lit (.int .u8 17), .lit (.int .u8 4), .lit (.int .u8 8), .lit (.int .u8 31), .lit (.int .u8 27), .lit (.int .u8 13), .lit (.int .u8 23), .lit (.int .u8 21), .lit (.int .u8 19), .lit (.int .u8 16), .lit (.int .u8 7), .lit (.int .u8 26), .lit (.int .u8 12), .lit (.int .u8 18), .lit (.int .u8 6), .lit (.int .u8 11), .lit (.int .u8 5), .lit (.int .u8 10), .lit (.int .u8 9)]
def laid_math_bits_deBruijn64tab {H : Type} : DataW H := .agg [.lit (.int .u8 0), .lit (.int .u8 1), .lit (.int .u8 56), .lit (.int .u8 2), .lit (.int .u8 57), .lit (.int .u8 49), .lit (.int .u8 28), .lit (.int .u8 3), .lit (.int .u8 61), .lit (.int .u8 58), .lit (.int .u8 42), .lit (.int .u8 50), .lit (.int .u8 38), .lit (.int .u8 29), .lit (.int .u8 17), .lit (.int .u8 4), .lit (.int .u8 62), .lit (.int .u8 47), .lit (.int .u8 59), .lit (.int .u8 36), .lit (.int .u8 45), .lit (.int .u8 43), .lit (.int .u8 51), .lit (.int .u8 22), .lit (.int .u8 53), .lit (.int .u8 39), .lit (.int .u8 33), .lit (.int .u8 30), .lit (.int .u8 24), .lit (.int .u8 18), .lit (.int .u8 12), .lit (.int .u8 5), .lit (.int .u8 63), .lit (.int .u8 55), .lit (.int .u8 48), .lit (.int .u8 27), .lit (.int .u8 60), .lit (.int .u8 41), .lit (.int .u8 37), .lit (.int .u8 16), .lit (.int .u8 46), .lit (.int .u8 35), .lit (.int .u8 44), .lit (.int .u8 21), .lit (.int .u8 52), .lit (.int .u8 32), .lit (.int .u8 23), .lit (.int .u8 11), .lit (.int .u8 54), .lit (.int .u8 26), .lit (.int .u8 40), .lit (.int .u8 15), .lit (.int .u8 34), .lit (.int .u8 20), .lit (.int .u8 31), .lit (.int .u8 10), .lit (.int .u8 25), .lit (.int .u8 14), .lit (.int .u8 19), .lit (.int .u8 9), .lit (.int .u8 13), .lit (.int .u8 8), .lit (.int .u8 7), .lit (.int .u8 6)]
def laid_internal_strconv_uint64pow10 {H : Type} : DataW H := .agg [.lit (.int .u64 1), .lit (.int .u64 10), .lit (.int .u64 100), .lit (.int .u64 1000), .lit (.int .u64 10000), .lit (.int .u64 100000), .lit (.int .u64 1000000), .lit (.int .u64 10000000), .lit (.int .u64 100000000), .lit (.int .u64 1000000000), .lit (.int .u64 10000000000), .lit (.int .u64 100000000000), .lit (.int .u64 1000000000000), .lit (.int .u64 10000000000000), .lit (.int .u64 100000000000000), .lit (.int .u64 1000000000000000), .lit (.int .u64 10000000000000000), .lit (.int .u64 100000000000000000), .lit (.int .u64 1000000000000000000), .lit (.int .u64 10000000000000000000)]
def laid_peerage_finding_names {H : Type} : DataW H := .agg [.lit (.string [97, 99, 99, 101, 112, 116]), .lit (.string [100, 105, 115, 99, 97, 114, 100]), .lit (.string [119, 105, 116, 104, 100, 114, 97, 119]), .lit (.string [114, 101, 115, 101, 116]), .lit (.string [110, 111, 116, 105, 102, 121])]
def laid_peerage_finding_families {H : Type} : DataW H := .agg [.lit (.string []), .lit (.string [105, 112, 118, 52]), .lit (.string [105, 112, 118, 54])]

/-- 'peeragelaw11.FindingTexts': WHATEVER THE INPUT: true; the input reads as it did. -/
def findingTextsSpec : ChangeSpec := { name := "findingTexts", fn := fun _ => fun
  | [d] => { results := [.lit (.bool true)], args := [d] }
  | _ => none }
def findingTextsRow : OpenClaim := { program := "ytknaogpkakdcoaadoor", sum := "264ff8c43de06935fe6c1e8bd69c6519006440594ecc7a410ed0be33b49e398a", func := "peerage/peeragelaw11.FindingTexts", spec := "findingTexts", inPlace := ["internal/abi.NoEscape", "internal/bytealg.MakeNoZero"], named := ["peerage/finding.names", "peerage/finding.families", "internal/strconv.uint64pow10", "math/bits.deBruijn32tab", "math/bits.deBruijn64tab"], apart := false, laid := [("math/bits.deBruijn32tab", laid_math_bits_deBruijn32tab), ("math/bits.deBruijn64tab", laid_math_bits_deBruijn64tab), ("internal/strconv.uint64pow10", laid_internal_strconv_uint64pow10), ("peerage/finding.names", laid_peerage_finding_names), ("peerage/finding.families", laid_peerage_finding_families)] }
def FindingTextsSaid : Prop := findingTextsRow.holds Tryd.pinned (OpenSpec.ofChange findingTextsSpec)

/-- ITS FALSE NEIGHBOUR: 'it returns false'. Refute it at one input. -/
def findingTextsWrong : ChangeSpec := { name := "findingTexts", fn := fun _ => fun
  | [d] => { results := [.lit (.bool false)], args := [d] }
  | _ => none }
def FindingTextsWrongFalsely : Prop := findingTextsRow.holds Tryd.pinned (OpenSpec.ofChange findingTextsWrong)

/-- 'peeragelaw11.FindingOrders': WHATEVER THE INPUT: true; the input reads as it did. -/
def findingOrdersSpec : ChangeSpec := { name := "findingOrders", fn := fun _ => fun
  | [d1, d2, d3] => { results := [.lit (.bool true)], args := [d1, d2, d3] }
  | _ => none }
def findingOrdersRow : OpenClaim := { program := "ytknaogpkakdcoaadoor", sum := "264ff8c43de06935fe6c1e8bd69c6519006440594ecc7a410ed0be33b49e398a", func := "peerage/peeragelaw11.FindingOrders", spec := "findingOrders", inPlace := ["internal/abi.NoEscape", "internal/bytealg.MakeNoZero"], named := ["peerage/finding.names", "peerage/finding.families", "internal/strconv.uint64pow10", "math/bits.deBruijn32tab", "math/bits.deBruijn64tab"], apart := false, laid := [("math/bits.deBruijn32tab", laid_math_bits_deBruijn32tab), ("math/bits.deBruijn64tab", laid_math_bits_deBruijn64tab), ("internal/strconv.uint64pow10", laid_internal_strconv_uint64pow10), ("peerage/finding.names", laid_peerage_finding_names), ("peerage/finding.families", laid_peerage_finding_families)] }
def FindingOrdersSaid : Prop := findingOrdersRow.holds Tryd.pinned (OpenSpec.ofChange findingOrdersSpec)

/-- ITS FALSE NEIGHBOUR: 'it returns false'. Refute it at one input. -/
def findingOrdersWrong : ChangeSpec := { name := "findingOrders", fn := fun _ => fun
  | [d1, d2, d3] => { results := [.lit (.bool false)], args := [d1, d2, d3] }
  | _ => none }
def FindingOrdersWrongFalsely : Prop := findingOrdersRow.holds Tryd.pinned (OpenSpec.ofChange findingOrdersWrong)

/-- 'peeragelaw11.FindingFolds': WHATEVER THE INPUT: true; the input reads as it did. -/
def findingFoldsSpec : ChangeSpec := { name := "findingFolds", fn := fun _ => fun
  | [d1, d2] => { results := [.lit (.bool true)], args := [d1, d2] }
  | _ => none }
def findingFoldsRow : OpenClaim := { program := "ytknaogpkakdcoaadoor", sum := "264ff8c43de06935fe6c1e8bd69c6519006440594ecc7a410ed0be33b49e398a", func := "peerage/peeragelaw11.FindingFolds", spec := "findingFolds", inPlace := ["internal/abi.NoEscape", "internal/bytealg.MakeNoZero"], unfollowed := true, recurses := true, named := ["peerage/finding.names", "peerage/finding.families", "internal/strconv.uint64pow10", "math/bits.deBruijn32tab", "math/bits.deBruijn64tab"], apart := false, laid := [("math/bits.deBruijn32tab", laid_math_bits_deBruijn32tab), ("math/bits.deBruijn64tab", laid_math_bits_deBruijn64tab), ("internal/strconv.uint64pow10", laid_internal_strconv_uint64pow10), ("peerage/finding.names", laid_peerage_finding_names), ("peerage/finding.families", laid_peerage_finding_families)] }
def FindingFoldsSaid : Prop := findingFoldsRow.holds Tryd.pinned (OpenSpec.ofChange findingFoldsSpec)

/-- ITS FALSE NEIGHBOUR: 'it returns false'. Refute it at one input. -/
def findingFoldsWrong : ChangeSpec := { name := "findingFolds", fn := fun _ => fun
  | [d1, d2] => { results := [.lit (.bool false)], args := [d1, d2] }
  | _ => none }
def FindingFoldsWrongFalsely : Prop := findingFoldsRow.holds Tryd.pinned (OpenSpec.ofChange findingFoldsWrong)

/-- 'peeragelaw11.FindingLogs': WHATEVER THE INPUT: true; the input reads as it did. -/
def findingLogsSpec : ChangeSpec := { name := "findingLogs", fn := fun _ => fun
  | [d1, d2] => { results := [.lit (.bool true)], args := [d1, d2] }
  | _ => none }
def findingLogsRow : OpenClaim := { program := "ytknaogpkakdcoaadoor", sum := "264ff8c43de06935fe6c1e8bd69c6519006440594ecc7a410ed0be33b49e398a", func := "peerage/peeragelaw11.FindingLogs", spec := "findingLogs", inPlace := ["internal/abi.NoEscape", "internal/bytealg.MakeNoZero"], unfollowed := true, recurses := true, named := ["peerage/finding.names", "peerage/finding.families", "internal/strconv.uint64pow10", "math/bits.deBruijn32tab", "math/bits.deBruijn64tab"], apart := false, laid := [("math/bits.deBruijn32tab", laid_math_bits_deBruijn32tab), ("math/bits.deBruijn64tab", laid_math_bits_deBruijn64tab), ("internal/strconv.uint64pow10", laid_internal_strconv_uint64pow10), ("peerage/finding.names", laid_peerage_finding_names), ("peerage/finding.families", laid_peerage_finding_families)] }
def FindingLogsSaid : Prop := findingLogsRow.holds Tryd.pinned (OpenSpec.ofChange findingLogsSpec)

/-- ITS FALSE NEIGHBOUR: 'it returns false'. Refute it at one input. -/
def findingLogsWrong : ChangeSpec := { name := "findingLogs", fn := fun _ => fun
  | [d1, d2] => { results := [.lit (.bool false)], args := [d1, d2] }
  | _ => none }
def FindingLogsWrongFalsely : Prop := findingLogsRow.holds Tryd.pinned (OpenSpec.ofChange findingLogsWrong)

/-- 'peeragelaw11.FindingKeeps': WHATEVER THE INPUT: true; the input reads as it did. -/
def findingKeepsSpec : ChangeSpec := { name := "findingKeeps", fn := fun _ => fun
  | [d] => { results := [.lit (.bool true)], args := [d] }
  | _ => none }
def findingKeepsRow : OpenClaim := { program := "ytknaogpkakdcoaadoor", sum := "264ff8c43de06935fe6c1e8bd69c6519006440594ecc7a410ed0be33b49e398a", func := "peerage/peeragelaw11.FindingKeeps", spec := "findingKeeps", inPlace := ["internal/abi.NoEscape", "internal/bytealg.MakeNoZero"], unfollowed := true, recurses := true, named := ["peerage/finding.names", "peerage/finding.families", "internal/strconv.uint64pow10", "math/bits.deBruijn32tab", "math/bits.deBruijn64tab"], apart := false, laid := [("math/bits.deBruijn32tab", laid_math_bits_deBruijn32tab), ("math/bits.deBruijn64tab", laid_math_bits_deBruijn64tab), ("internal/strconv.uint64pow10", laid_internal_strconv_uint64pow10), ("peerage/finding.names", laid_peerage_finding_names), ("peerage/finding.families", laid_peerage_finding_families)] }
def FindingKeepsSaid : Prop := findingKeepsRow.holds Tryd.pinned (OpenSpec.ofChange findingKeepsSpec)

/-- ITS FALSE NEIGHBOUR: 'it returns false'. Refute it at one input. -/
def findingKeepsWrong : ChangeSpec := { name := "findingKeeps", fn := fun _ => fun
  | [d] => { results := [.lit (.bool false)], args := [d] }
  | _ => none }
def FindingKeepsWrongFalsely : Prop := findingKeepsRow.holds Tryd.pinned (OpenSpec.ofChange findingKeepsWrong)

/- THE SECOND FORM. 'bulk': how many values and letters a reading holds, each counted each time it is reached (what is shared counts as often as it is met; a slice's spare places count too). A statement '..UptoSaid' is the law's where the arguments, and the package variables that the reading takes, are together of bulk at most 1048576: NARROWER than '..Said'. Prove '..Said' where nothing that the law and all that it calls make is longer than what came in: it says more and counts as full. Else prove '..UptoSaid'. A law counts once. -/
mutual
def uptoBulk {H : Type} : DataW H → Nat
  | .lit (.string bytes) => bytes.length + 1
  | .lit _ => 1
  | .nil => 1
  | .ptr d => uptoBulk d + 1
  | .slice elems spare => uptoBulkAll elems + uptoBulkAll spare + 1
  | .agg parts => uptoBulkAll parts + 1
  | .iface _ d => uptoBulk d + 1
  | .map entries => uptoBulkEntries entries + 1
  | .held _ => 1
def uptoBulkAll {H : Type} : List (DataW H) → Nat
  | [] => 0
  | d :: r => uptoBulk d + uptoBulkAll r
def uptoBulkEntries {H : Type} : List (Lit × DataW H) → Nat
  | [] => 0
  | x :: r => uptoBulkEntry x + uptoBulkEntries r
def uptoBulkEntry {H : Type} : Lit × DataW H → Nat
  | (.string bytes, d) => bytes.length + uptoBulk d + 1
  | (_, d) => uptoBulk d + 1
 end
def uptoSmall : (H : Type) → List (DataW H) → Bool := fun _ ds => decide (uptoBulkAll ds ≤ 1048576)
def OpenSpec.upto (s : _root_.Go.ChangeSpec) : _root_.Go.OpenSpec := { _root_.Go.OpenSpec.ofChange s with cond := some uptoSmall }

/-- 'peeragelaw11.FindingTexts', WHERE WHAT IT READS IS OF BULK AT MOST 1048576: true; the input reads as it did. -/
def findingTextsUptoRow : OpenClaim := { program := "ytknaogpkakdcoaadoor", sum := "264ff8c43de06935fe6c1e8bd69c6519006440594ecc7a410ed0be33b49e398a", func := "peerage/peeragelaw11.FindingTexts", spec := "findingTexts", inPlace := ["internal/abi.NoEscape", "internal/bytealg.MakeNoZero"], named := ["peerage/finding.names", "peerage/finding.families", "internal/strconv.uint64pow10", "math/bits.deBruijn32tab", "math/bits.deBruijn64tab"], apart := false, laid := [("math/bits.deBruijn32tab", laid_math_bits_deBruijn32tab), ("math/bits.deBruijn64tab", laid_math_bits_deBruijn64tab), ("internal/strconv.uint64pow10", laid_internal_strconv_uint64pow10), ("peerage/finding.names", laid_peerage_finding_names), ("peerage/finding.families", laid_peerage_finding_families)], narrowed := true }
def FindingTextsUptoSaid : Prop := findingTextsUptoRow.holds Tryd.pinned (OpenSpec.upto findingTextsSpec)

/-- 'peeragelaw11.FindingOrders', WHERE WHAT IT READS IS OF BULK AT MOST 1048576: true; the input reads as it did. -/
def findingOrdersUptoRow : OpenClaim := { program := "ytknaogpkakdcoaadoor", sum := "264ff8c43de06935fe6c1e8bd69c6519006440594ecc7a410ed0be33b49e398a", func := "peerage/peeragelaw11.FindingOrders", spec := "findingOrders", inPlace := ["internal/abi.NoEscape", "internal/bytealg.MakeNoZero"], named := ["peerage/finding.names", "peerage/finding.families", "internal/strconv.uint64pow10", "math/bits.deBruijn32tab", "math/bits.deBruijn64tab"], apart := false, laid := [("math/bits.deBruijn32tab", laid_math_bits_deBruijn32tab), ("math/bits.deBruijn64tab", laid_math_bits_deBruijn64tab), ("internal/strconv.uint64pow10", laid_internal_strconv_uint64pow10), ("peerage/finding.names", laid_peerage_finding_names), ("peerage/finding.families", laid_peerage_finding_families)], narrowed := true }
def FindingOrdersUptoSaid : Prop := findingOrdersUptoRow.holds Tryd.pinned (OpenSpec.upto findingOrdersSpec)

/-- 'peeragelaw11.FindingFolds', WHERE WHAT IT READS IS OF BULK AT MOST 1048576: true; the input reads as it did. -/
def findingFoldsUptoRow : OpenClaim := { program := "ytknaogpkakdcoaadoor", sum := "264ff8c43de06935fe6c1e8bd69c6519006440594ecc7a410ed0be33b49e398a", func := "peerage/peeragelaw11.FindingFolds", spec := "findingFolds", inPlace := ["internal/abi.NoEscape", "internal/bytealg.MakeNoZero"], unfollowed := true, recurses := true, named := ["peerage/finding.names", "peerage/finding.families", "internal/strconv.uint64pow10", "math/bits.deBruijn32tab", "math/bits.deBruijn64tab"], apart := false, laid := [("math/bits.deBruijn32tab", laid_math_bits_deBruijn32tab), ("math/bits.deBruijn64tab", laid_math_bits_deBruijn64tab), ("internal/strconv.uint64pow10", laid_internal_strconv_uint64pow10), ("peerage/finding.names", laid_peerage_finding_names), ("peerage/finding.families", laid_peerage_finding_families)], narrowed := true }
def FindingFoldsUptoSaid : Prop := findingFoldsUptoRow.holds Tryd.pinned (OpenSpec.upto findingFoldsSpec)

/-- 'peeragelaw11.FindingLogs', WHERE WHAT IT READS IS OF BULK AT MOST 1048576: true; the input reads as it did. -/
def findingLogsUptoRow : OpenClaim := { program := "ytknaogpkakdcoaadoor", sum := "264ff8c43de06935fe6c1e8bd69c6519006440594ecc7a410ed0be33b49e398a", func := "peerage/peeragelaw11.FindingLogs", spec := "findingLogs", inPlace := ["internal/abi.NoEscape", "internal/bytealg.MakeNoZero"], unfollowed := true, recurses := true, named := ["peerage/finding.names", "peerage/finding.families", "internal/strconv.uint64pow10", "math/bits.deBruijn32tab", "math/bits.deBruijn64tab"], apart := false, laid := [("math/bits.deBruijn32tab", laid_math_bits_deBruijn32tab), ("math/bits.deBruijn64tab", laid_math_bits_deBruijn64tab), ("internal/strconv.uint64pow10", laid_internal_strconv_uint64pow10), ("peerage/finding.names", laid_peerage_finding_names), ("peerage/finding.families", laid_peerage_finding_families)], narrowed := true }
def FindingLogsUptoSaid : Prop := findingLogsUptoRow.holds Tryd.pinned (OpenSpec.upto findingLogsSpec)

/-- 'peeragelaw11.FindingKeeps', WHERE WHAT IT READS IS OF BULK AT MOST 1048576: true; the input reads as it did. -/
def findingKeepsUptoRow : OpenClaim := { program := "ytknaogpkakdcoaadoor", sum := "264ff8c43de06935fe6c1e8bd69c6519006440594ecc7a410ed0be33b49e398a", func := "peerage/peeragelaw11.FindingKeeps", spec := "findingKeeps", inPlace := ["internal/abi.NoEscape", "internal/bytealg.MakeNoZero"], unfollowed := true, recurses := true, named := ["peerage/finding.names", "peerage/finding.families", "internal/strconv.uint64pow10", "math/bits.deBruijn32tab", "math/bits.deBruijn64tab"], apart := false, laid := [("math/bits.deBruijn32tab", laid_math_bits_deBruijn32tab), ("math/bits.deBruijn64tab", laid_math_bits_deBruijn64tab), ("internal/strconv.uint64pow10", laid_internal_strconv_uint64pow10), ("peerage/finding.names", laid_peerage_finding_names), ("peerage/finding.families", laid_peerage_finding_families)], narrowed := true }
def FindingKeepsUptoSaid : Prop := findingKeepsUptoRow.holds Tryd.pinned (OpenSpec.upto findingKeepsSpec)

end Rows
end Go.Proofs.YtknaogpkakdcoaaDoor
