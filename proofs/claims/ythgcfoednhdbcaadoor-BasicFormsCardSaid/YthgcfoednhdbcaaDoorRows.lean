/-
  NARROWER THAN 'FOR EVERY INPUT', by the rows' own cells (each row's printed sentence says how): BasicPlain: laid · BasicApart: laid · BasicLengths: laid · BasicReads: laid · BasicForms: laid.
  DERIVED. THE GIVEN ROWS OF THIS SEAT. 5 by the template 'for every input the law returns true; each argument reads behind the call as it read before'; 0 by the template 'total and deterministic' (their statements: YthgcfoednhdbcaaDoorTotals.lean).
  GIVEN WITH THE SEED: the statements are not yours to turn. If you find one false, say at which input.
  Laid BY PROGRAM, IN A SANDBOX (cutbox-rows.mjs): the forced cells as the released guide's own fill.sh prints them over the translation b1b58f153e59be88… (all of the seat's roots in one cut). By AI agents, Wed Nov 11 2026. No macro, syntax, notation, axiom, sorry.
-/
import Derived.Test.YthgcfoednhdbcaaDoorChecked
import GoSem.Claim
import GoSem.ClaimJoined
import GoSem.ClaimMapViews
import Derived.JoinedTies
import Derived.KernelRfl
namespace Go.Proofs.YthgcfoednhdbcaaDoor
/- THE CELL 'sum', in the pinned program and in every row, IS THE sha256 OF THE DUMP (.gsa) THAT YthgcfoednhdbcaaDoorProg.lean LOADS. Nothing in Lean hashes anything: it is a label: what it is worth is what the hold of that sum in a sandbox is worth. -/
noncomputable def Tryd.pinned : Pinned := { name := "ythgcfoednhdbcaadoor", sum := "b1b58f153e59be885d9f725b9de190c8984bb0bb71b8fe18c0ba22ab97b87eab", checked := Tryd.checked }
namespace Rows
def none {H : Type} : Left H := { results := [], args := [] }

/- WHAT THE LISTED PACKAGE-LEVEL VARIABLES READ AS WHEN THE CALL BEGINS. Each datum BY PROGRAM (the guide's laid-datum.mjs) off the statement by which the dump's own 'gosem.cut.vars' lays the variable. In a bare row this is a premise. The card (YthgcfoednhdbcaaDoorCards.lean) ties it to the program's text. -/
def laid_math_bits_deBruijn32tab {H : Type} : DataW H := .agg [.lit (.int .u8 0), .lit (.int .u8 1), .lit (.int .u8 28), .lit (.int .u8 2), .lit (.int .u8 29), .lit (.int .u8 14), .lit (.int .u8 24), .lit (.int .u8 3), .lit (.int .u8 30), .lit (.int .u8 22), .lit (.int .u8 20), .lit (.int .u8 15), .lit (.int .u8 25), .lit (.int .u8 17), .lit (.int .u8 4), .lit (.int .u8 8), .lit (.int .u8 31), .lit (.int .u8 27), .lit (.int .u8 13), .lit (.int .u8 23), .lit (.int .u8 21), .lit (.int .u8 19), .lit (.int .u8 16), .lit (.int .u8 7), .lit (.int .u8 26), .lit (.int .u8 12), .lit (.int .u8 18), .lit (.int .u8 6), .lit (.int .u8 11), .lit (.int .u8 5), .lit (.int .u8 10), .lit (.int .u8 9)]
def laid_math_bits_deBruijn64tab {H : Type} : DataW H := .agg [.lit (.int .u8 0), .lit (.int .u8 1), .lit (.int .u8 56), .lit (.int .u8 2), .lit (.int .u8 57), .lit (.int .u8 49), .lit (.int .u8 28), .lit (.int .u8 3), .lit (.int .u8 61), .lit (.int .u8 58), .lit (.int .u8 42), .lit (.int .u8 50), .lit (.int .u8 38), .lit (.int .u8 29), .lit (.int .u8 17), .lit (.int .u8 4), .lit (.int .u8 62), .lit (.int .u8 47), .lit (.int .u8 59), .lit (.int .u8 36), .lit (.int .u8 45), .lit (.int .u8 43), .lit (.int .u8 51), .lit (.int .u8 22), .lit (.int .u8 53), .lit (.int .u8 39), .lit (.int .u8 33), .lit (.int .u8 30), .lit (.int .u8 24), .lit (.int .u8 18), .lit (.int .u8 12), .lit (.int .u8 5), .lit (.int .u8 63), .lit (.int .u8 55), .lit (.int .u8 48), .lit (.int .u8 27), .lit (.int .u8 60), .lit (.int .u8 41), .lit (.int .u8 37), .lit (.int .u8 16), .lit (.int .u8 46), .lit (.int .u8 35), .lit (.int .u8 44), .lit (.int .u8 21), .lit (.int .u8 52), .lit (.int .u8 32), .lit (.int .u8 23), .lit (.int .u8 11), .lit (.int .u8 54), .lit (.int .u8 26), .lit (.int .u8 40), .lit (.int .u8 15), .lit (.int .u8 34), .lit (.int .u8 20), .lit (.int .u8 31), .lit (.int .u8 10), .lit (.int .u8 25), .lit (.int .u8 14), .lit (.int .u8 19), .lit (.int .u8 9), .lit (.int .u8 13), .lit (.int .u8 8), .lit (.int .u8 7), .lit (.int .u8 6)]
def laid_internal_strconv_uint64pow10 {H : Type} : DataW H := .agg [.lit (.int .u64 1), .lit (.int .u64 10), .lit (.int .u64 100), .lit (.int .u64 1000), .lit (.int .u64 10000), .lit (.int .u64 100000), .lit (.int .u64 1000000), .lit (.int .u64 10000000), .lit (.int .u64 100000000), .lit (.int .u64 1000000000), .lit (.int .u64 10000000000), .lit (.int .u64 100000000000), .lit (.int .u64 1000000000000), .lit (.int .u64 10000000000000), .lit (.int .u64 100000000000000), .lit (.int .u64 1000000000000000), .lit (.int .u64 10000000000000000), .lit (.int .u64 100000000000000000), .lit (.int .u64 1000000000000000000), .lit (.int .u64 10000000000000000000)]

/-- 'peeragelaw07.BasicPlain': WHATEVER THE INPUT: true; the input reads as it did. -/
def basicPlainSpec : ChangeSpec := { name := "basicPlain", fn := fun _ => fun
  | [d1, d2] => { results := [.lit (.bool true)], args := [d1, d2] }
  | _ => none }
def basicPlainRow : OpenClaim := { program := "ythgcfoednhdbcaadoor", sum := "b1b58f153e59be885d9f725b9de190c8984bb0bb71b8fe18c0ba22ab97b87eab", func := "peerage/peeragelaw07.BasicPlain", spec := "basicPlain", unfollowed := true, recurses := true, named := ["internal/strconv.uint64pow10", "math/bits.deBruijn32tab", "math/bits.deBruijn64tab"], apart := false, laid := [("math/bits.deBruijn32tab", laid_math_bits_deBruijn32tab), ("math/bits.deBruijn64tab", laid_math_bits_deBruijn64tab), ("internal/strconv.uint64pow10", laid_internal_strconv_uint64pow10)] }
def BasicPlainSaid : Prop := basicPlainRow.holds Tryd.pinned (OpenSpec.ofChange basicPlainSpec)

/-- ITS FALSE NEIGHBOUR: 'it returns false'. Refute it at one input. -/
def basicPlainWrong : ChangeSpec := { name := "basicPlain", fn := fun _ => fun
  | [d1, d2] => { results := [.lit (.bool false)], args := [d1, d2] }
  | _ => none }
def BasicPlainWrongFalsely : Prop := basicPlainRow.holds Tryd.pinned (OpenSpec.ofChange basicPlainWrong)

/-- 'peeragelaw07.BasicApart': WHATEVER THE INPUT: true; the input reads as it did. -/
def basicApartSpec : ChangeSpec := { name := "basicApart", fn := fun _ => fun
  | [d1, d2] => { results := [.lit (.bool true)], args := [d1, d2] }
  | _ => none }
def basicApartRow : OpenClaim := { program := "ythgcfoednhdbcaadoor", sum := "b1b58f153e59be885d9f725b9de190c8984bb0bb71b8fe18c0ba22ab97b87eab", func := "peerage/peeragelaw07.BasicApart", spec := "basicApart", unfollowed := true, recurses := true, named := ["internal/strconv.uint64pow10", "math/bits.deBruijn32tab", "math/bits.deBruijn64tab"], apart := false, laid := [("math/bits.deBruijn32tab", laid_math_bits_deBruijn32tab), ("math/bits.deBruijn64tab", laid_math_bits_deBruijn64tab), ("internal/strconv.uint64pow10", laid_internal_strconv_uint64pow10)] }
def BasicApartSaid : Prop := basicApartRow.holds Tryd.pinned (OpenSpec.ofChange basicApartSpec)

/-- ITS FALSE NEIGHBOUR: 'it returns false'. Refute it at one input. -/
def basicApartWrong : ChangeSpec := { name := "basicApart", fn := fun _ => fun
  | [d1, d2] => { results := [.lit (.bool false)], args := [d1, d2] }
  | _ => none }
def BasicApartWrongFalsely : Prop := basicApartRow.holds Tryd.pinned (OpenSpec.ofChange basicApartWrong)

/-- 'peeragelaw07.BasicLengths': WHATEVER THE INPUT: true; the input reads as it did. -/
def basicLengthsSpec : ChangeSpec := { name := "basicLengths", fn := fun _ => fun
  | [d1, d2, d3] => { results := [.lit (.bool true)], args := [d1, d2, d3] }
  | _ => none }
def basicLengthsRow : OpenClaim := { program := "ythgcfoednhdbcaadoor", sum := "b1b58f153e59be885d9f725b9de190c8984bb0bb71b8fe18c0ba22ab97b87eab", func := "peerage/peeragelaw07.BasicLengths", spec := "basicLengths", unfollowed := true, recurses := true, named := ["internal/strconv.uint64pow10", "math/bits.deBruijn32tab", "math/bits.deBruijn64tab"], apart := false, laid := [("math/bits.deBruijn32tab", laid_math_bits_deBruijn32tab), ("math/bits.deBruijn64tab", laid_math_bits_deBruijn64tab), ("internal/strconv.uint64pow10", laid_internal_strconv_uint64pow10)] }
def BasicLengthsSaid : Prop := basicLengthsRow.holds Tryd.pinned (OpenSpec.ofChange basicLengthsSpec)

/-- ITS FALSE NEIGHBOUR: 'it returns false'. Refute it at one input. -/
def basicLengthsWrong : ChangeSpec := { name := "basicLengths", fn := fun _ => fun
  | [d1, d2, d3] => { results := [.lit (.bool false)], args := [d1, d2, d3] }
  | _ => none }
def BasicLengthsWrongFalsely : Prop := basicLengthsRow.holds Tryd.pinned (OpenSpec.ofChange basicLengthsWrong)

/-- 'peeragelaw07.BasicReads': WHATEVER THE INPUT: true; the input reads as it did. -/
def basicReadsSpec : ChangeSpec := { name := "basicReads", fn := fun _ => fun
  | [d1, d2] => { results := [.lit (.bool true)], args := [d1, d2] }
  | _ => none }
def basicReadsRow : OpenClaim := { program := "ythgcfoednhdbcaadoor", sum := "b1b58f153e59be885d9f725b9de190c8984bb0bb71b8fe18c0ba22ab97b87eab", func := "peerage/peeragelaw07.BasicReads", spec := "basicReads", unfollowed := true, recurses := true, named := ["internal/strconv.uint64pow10", "math/bits.deBruijn32tab", "math/bits.deBruijn64tab"], apart := false, laid := [("math/bits.deBruijn32tab", laid_math_bits_deBruijn32tab), ("math/bits.deBruijn64tab", laid_math_bits_deBruijn64tab), ("internal/strconv.uint64pow10", laid_internal_strconv_uint64pow10)] }
def BasicReadsSaid : Prop := basicReadsRow.holds Tryd.pinned (OpenSpec.ofChange basicReadsSpec)

/-- ITS FALSE NEIGHBOUR: 'it returns false'. Refute it at one input. -/
def basicReadsWrong : ChangeSpec := { name := "basicReads", fn := fun _ => fun
  | [d1, d2] => { results := [.lit (.bool false)], args := [d1, d2] }
  | _ => none }
def BasicReadsWrongFalsely : Prop := basicReadsRow.holds Tryd.pinned (OpenSpec.ofChange basicReadsWrong)

/-- 'peeragelaw07.BasicForms': WHATEVER THE INPUT: true; the input reads as it did. -/
def basicFormsSpec : ChangeSpec := { name := "basicForms", fn := fun _ => fun
  | [d] => { results := [.lit (.bool true)], args := [d] }
  | _ => none }
def basicFormsRow : OpenClaim := { program := "ythgcfoednhdbcaadoor", sum := "b1b58f153e59be885d9f725b9de190c8984bb0bb71b8fe18c0ba22ab97b87eab", func := "peerage/peeragelaw07.BasicForms", spec := "basicForms", unfollowed := true, recurses := true, named := ["internal/strconv.uint64pow10", "math/bits.deBruijn32tab", "math/bits.deBruijn64tab"], apart := false, laid := [("math/bits.deBruijn32tab", laid_math_bits_deBruijn32tab), ("math/bits.deBruijn64tab", laid_math_bits_deBruijn64tab), ("internal/strconv.uint64pow10", laid_internal_strconv_uint64pow10)] }
def BasicFormsSaid : Prop := basicFormsRow.holds Tryd.pinned (OpenSpec.ofChange basicFormsSpec)

/-- ITS FALSE NEIGHBOUR: 'it returns false'. Refute it at one input. -/
def basicFormsWrong : ChangeSpec := { name := "basicForms", fn := fun _ => fun
  | [d] => { results := [.lit (.bool false)], args := [d] }
  | _ => none }
def BasicFormsWrongFalsely : Prop := basicFormsRow.holds Tryd.pinned (OpenSpec.ofChange basicFormsWrong)

/- THE SECOND FORM. 'bulk': how many values and letters a reading holds, each counted each time it is reached (what is shared counts as often as it is met; a slice's spare places count too). A statement '..UptoSaid' is the law's where the arguments, and the package variables that the reading takes, are together of bulk at most 1048576: NARROWER than '..Said'. Prove '..Said' where nothing that the law and all that it calls make is longer than what came in: it says more and counts as full. Else prove '..UptoSaid'. A law counts once. -/
mutual
def uptoBulk {H : Type} : DataW H → Nat
  | .lit (.string bytes) => bytes.length + 1
  | .lit _ => 1
  | .nil => 1
  | .ptr d => uptoBulk d + 1
  | .slice elems spare => uptoBulkAll elems + uptoBulkAll spare + 1
  | .agg parts => uptoBulkAll parts + 1
  | .iface _ d => uptoBulk d + 1
  | .map entries => uptoBulkEntries entries + 1
  | .held _ => 1
def uptoBulkAll {H : Type} : List (DataW H) → Nat
  | [] => 0
  | d :: r => uptoBulk d + uptoBulkAll r
def uptoBulkEntries {H : Type} : List (Lit × DataW H) → Nat
  | [] => 0
  | x :: r => uptoBulkEntry x + uptoBulkEntries r
def uptoBulkEntry {H : Type} : Lit × DataW H → Nat
  | (.string bytes, d) => bytes.length + uptoBulk d + 1
  | (_, d) => uptoBulk d + 1
 end
def uptoSmall : (H : Type) → List (DataW H) → Bool := fun _ ds => decide (uptoBulkAll ds ≤ 1048576)
def OpenSpec.upto (s : _root_.Go.ChangeSpec) : _root_.Go.OpenSpec := { _root_.Go.OpenSpec.ofChange s with cond := some uptoSmall }

/-- 'peeragelaw07.BasicPlain', WHERE WHAT IT READS IS OF BULK AT MOST 1048576: true; the input reads as it did. -/
def basicPlainUptoRow : OpenClaim := { program := "ythgcfoednhdbcaadoor", sum := "b1b58f153e59be885d9f725b9de190c8984bb0bb71b8fe18c0ba22ab97b87eab", func := "peerage/peeragelaw07.BasicPlain", spec := "basicPlain", unfollowed := true, recurses := true, named := ["internal/strconv.uint64pow10", "math/bits.deBruijn32tab", "math/bits.deBruijn64tab"], apart := false, laid := [("math/bits.deBruijn32tab", laid_math_bits_deBruijn32tab), ("math/bits.deBruijn64tab", laid_math_bits_deBruijn64tab), ("internal/strconv.uint64pow10", laid_internal_strconv_uint64pow10)], narrowed := true }
def BasicPlainUptoSaid : Prop := basicPlainUptoRow.holds Tryd.pinned (OpenSpec.upto basicPlainSpec)

/-- 'peeragelaw07.BasicApart', WHERE WHAT IT READS IS OF BULK AT MOST 1048576: true; the input reads as it did. -/
def basicApartUptoRow : OpenClaim := { program := "ythgcfoednhdbcaadoor", sum := "b1b58f153e59be885d9f725b9de190c8984bb0bb71b8fe18c0ba22ab97b87eab", func := "peerage/peeragelaw07.BasicApart", spec := "basicApart", unfollowed := true, recurses := true, named := ["internal/strconv.uint64pow10", "math/bits.deBruijn32tab", "math/bits.deBruijn64tab"], apart := false, laid := [("math/bits.deBruijn32tab", laid_math_bits_deBruijn32tab), ("math/bits.deBruijn64tab", laid_math_bits_deBruijn64tab), ("internal/strconv.uint64pow10", laid_internal_strconv_uint64pow10)], narrowed := true }
def BasicApartUptoSaid : Prop := basicApartUptoRow.holds Tryd.pinned (OpenSpec.upto basicApartSpec)

/-- 'peeragelaw07.BasicLengths', WHERE WHAT IT READS IS OF BULK AT MOST 1048576: true; the input reads as it did. -/
def basicLengthsUptoRow : OpenClaim := { program := "ythgcfoednhdbcaadoor", sum := "b1b58f153e59be885d9f725b9de190c8984bb0bb71b8fe18c0ba22ab97b87eab", func := "peerage/peeragelaw07.BasicLengths", spec := "basicLengths", unfollowed := true, recurses := true, named := ["internal/strconv.uint64pow10", "math/bits.deBruijn32tab", "math/bits.deBruijn64tab"], apart := false, laid := [("math/bits.deBruijn32tab", laid_math_bits_deBruijn32tab), ("math/bits.deBruijn64tab", laid_math_bits_deBruijn64tab), ("internal/strconv.uint64pow10", laid_internal_strconv_uint64pow10)], narrowed := true }
def BasicLengthsUptoSaid : Prop := basicLengthsUptoRow.holds Tryd.pinned (OpenSpec.upto basicLengthsSpec)

/-- 'peeragelaw07.BasicReads', WHERE WHAT IT READS IS OF BULK AT MOST 1048576: true; the input reads as it did. -/
def basicReadsUptoRow : OpenClaim := { program := "ythgcfoednhdbcaadoor", sum := "b1b58f153e59be885d9f725b9de190c8984bb0bb71b8fe18c0ba22ab97b87eab", func := "peerage/peeragelaw07.BasicReads", spec := "basicReads", unfollowed := true, recurses := true, named := ["internal/strconv.uint64pow10", "math/bits.deBruijn32tab", "math/bits.deBruijn64tab"], apart := false, laid := [("math/bits.deBruijn32tab", laid_math_bits_deBruijn32tab), ("math/bits.deBruijn64tab", laid_math_bits_deBruijn64tab), ("internal/strconv.uint64pow10", laid_internal_strconv_uint64pow10)], narrowed := true }
def BasicReadsUptoSaid : Prop := basicReadsUptoRow.holds Tryd.pinned (OpenSpec.upto basicReadsSpec)

/-- 'peeragelaw07.BasicForms', WHERE WHAT IT READS IS OF BULK AT MOST 1048576: true; the input reads as it did. -/
def basicFormsUptoRow : OpenClaim := { program := "ythgcfoednhdbcaadoor", sum := "b1b58f153e59be885d9f725b9de190c8984bb0bb71b8fe18c0ba22ab97b87eab", func := "peerage/peeragelaw07.BasicForms", spec := "basicForms", unfollowed := true, recurses := true, named := ["internal/strconv.uint64pow10", "math/bits.deBruijn32tab", "math/bits.deBruijn64tab"], apart := false, laid := [("math/bits.deBruijn32tab", laid_math_bits_deBruijn32tab), ("math/bits.deBruijn64tab", laid_math_bits_deBruijn64tab), ("internal/strconv.uint64pow10", laid_internal_strconv_uint64pow10)], narrowed := true }
def BasicFormsUptoSaid : Prop := basicFormsUptoRow.holds Tryd.pinned (OpenSpec.upto basicFormsSpec)

end Rows
end Go.Proofs.YthgcfoednhdbcaaDoor
