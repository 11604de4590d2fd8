/-
  No cell of these rows narrows 'for every input' (looked for: loops, veiled, ifaces, maps, wideKeys, modest, calm, conditions, laid).
  DERIVED. THE GIVEN ROWS OF THIS SEAT. 4 by the template 'for every input the law returns true; each argument reads behind the call as it read before'; 0 by the template 'total and deterministic' (their statements: YthdipbabfilciaaTotals.lean).
  GIVEN WITH THE SEED: the statements are not yours to turn. If you find one false, say at which input.
  Laid BY PROGRAM, IN A SANDBOX (cutbox-rows.mjs): the forced cells as the released guide's own fill.sh prints them over the translation 2f27845b963bbffa… (all of the seat's roots in one cut). By AI agents, Wed Nov 11 2026. No macro, syntax, notation, axiom, sorry.
-/
import Derived.Test.YthdipbabfilciaaChecked
import GoSem.Claim
import GoSem.ClaimJoined
import GoSem.ClaimMapViews
import Derived.JoinedTies
import Derived.KernelRfl
namespace Go.Proofs.Ythdipbabfilciaa
/- THE CELL 'sum', in the pinned program and in every row, IS THE sha256 OF THE DUMP (.gsa) THAT YthdipbabfilciaaProg.lean LOADS. Nothing in Lean hashes anything: it is a label: what it is worth is what the hold of that sum in a sandbox is worth. -/
noncomputable def Try.pinned : Pinned := { name := "ythdipbabfilciaa", sum := "2f27845b963bbffa12915b0dc6151d2efb5d4284ae20fb073cd550160dd293d0", checked := Try.checked }
namespace Rows
def none {H : Type} : Left H := { results := [], args := [] }

/-- 'peeragelaw10.FlagRight': WHATEVER THE INPUT: true; the input reads as it did. -/
def flagRightSpec : ChangeSpec := { name := "flagRight", fn := fun _ => fun
  | [d1, d2] => { results := [.lit (.bool true)], args := [d1, d2] }
  | _ => none }
def flagRightRow : OpenClaim := { program := "ythdipbabfilciaa", sum := "2f27845b963bbffa12915b0dc6151d2efb5d4284ae20fb073cd550160dd293d0", func := "peerage/peeragelaw10.FlagRight", spec := "flagRight", apart := false }
def FlagRightSaid : Prop := flagRightRow.holds Try.pinned (OpenSpec.ofChange flagRightSpec)

/-- ITS FALSE NEIGHBOUR: 'it returns false'. Refute it at one input. -/
def flagRightWrong : ChangeSpec := { name := "flagRight", fn := fun _ => fun
  | [d1, d2] => { results := [.lit (.bool false)], args := [d1, d2] }
  | _ => none }
def FlagRightWrongFalsely : Prop := flagRightRow.holds Try.pinned (OpenSpec.ofChange flagRightWrong)

/-- 'peeragelaw10.FlagCanonical': WHATEVER THE INPUT: true; the input reads as it did. -/
def flagCanonicalSpec : ChangeSpec := { name := "flagCanonical", fn := fun _ => fun
  | [d1, d2, d3] => { results := [.lit (.bool true)], args := [d1, d2, d3] }
  | _ => none }
def flagCanonicalRow : OpenClaim := { program := "ythdipbabfilciaa", sum := "2f27845b963bbffa12915b0dc6151d2efb5d4284ae20fb073cd550160dd293d0", func := "peerage/peeragelaw10.FlagCanonical", spec := "flagCanonical", apart := false }
def FlagCanonicalSaid : Prop := flagCanonicalRow.holds Try.pinned (OpenSpec.ofChange flagCanonicalSpec)

/-- ITS FALSE NEIGHBOUR: 'it returns false'. Refute it at one input. -/
def flagCanonicalWrong : ChangeSpec := { name := "flagCanonical", fn := fun _ => fun
  | [d1, d2, d3] => { results := [.lit (.bool false)], args := [d1, d2, d3] }
  | _ => none }
def FlagCanonicalWrongFalsely : Prop := flagCanonicalRow.holds Try.pinned (OpenSpec.ofChange flagCanonicalWrong)

/-- 'peeragelaw10.FlagReads': WHATEVER THE INPUT: true; the input reads as it did. -/
def flagReadsSpec : ChangeSpec := { name := "flagReads", fn := fun _ => fun
  | [d] => { results := [.lit (.bool true)], args := [d] }
  | _ => none }
def flagReadsRow : OpenClaim := { program := "ythdipbabfilciaa", sum := "2f27845b963bbffa12915b0dc6151d2efb5d4284ae20fb073cd550160dd293d0", func := "peerage/peeragelaw10.FlagReads", spec := "flagReads", apart := false }
def FlagReadsSaid : Prop := flagReadsRow.holds Try.pinned (OpenSpec.ofChange flagReadsSpec)

/-- ITS FALSE NEIGHBOUR: 'it returns false'. Refute it at one input. -/
def flagReadsWrong : ChangeSpec := { name := "flagReads", fn := fun _ => fun
  | [d] => { results := [.lit (.bool false)], args := [d] }
  | _ => none }
def FlagReadsWrongFalsely : Prop := flagReadsRow.holds Try.pinned (OpenSpec.ofChange flagReadsWrong)

/-- 'peeragelaw10.FlagForms': WHATEVER THE INPUT: true; the input reads as it did. -/
def flagFormsSpec : ChangeSpec := { name := "flagForms", fn := fun _ => fun
  | [d] => { results := [.lit (.bool true)], args := [d] }
  | _ => none }
def flagFormsRow : OpenClaim := { program := "ythdipbabfilciaa", sum := "2f27845b963bbffa12915b0dc6151d2efb5d4284ae20fb073cd550160dd293d0", func := "peerage/peeragelaw10.FlagForms", spec := "flagForms", apart := false }
def FlagFormsSaid : Prop := flagFormsRow.holds Try.pinned (OpenSpec.ofChange flagFormsSpec)

/-- ITS FALSE NEIGHBOUR: 'it returns false'. Refute it at one input. -/
def flagFormsWrong : ChangeSpec := { name := "flagForms", fn := fun _ => fun
  | [d] => { results := [.lit (.bool false)], args := [d] }
  | _ => none }
def FlagFormsWrongFalsely : Prop := flagFormsRow.holds Try.pinned (OpenSpec.ofChange flagFormsWrong)

/- THE SECOND FORM. 'bulk': how many values and letters a reading holds, each counted each time it is reached (what is shared counts as often as it is met; a slice's spare places count too). A statement '..UptoSaid' is the law's where the arguments, and the package variables that the reading takes, are together of bulk at most 1048576: NARROWER than '..Said'. Prove '..Said' where nothing that the law and all that it calls make is longer than what came in: it says more and counts as full. Else prove '..UptoSaid'. A law counts once. -/
mutual
def uptoBulk {H : Type} : DataW H → Nat
  | .lit (.string bytes) => bytes.length + 1
  | .lit _ => 1
  | .nil => 1
  | .ptr d => uptoBulk d + 1
  | .slice elems spare => uptoBulkAll elems + uptoBulkAll spare + 1
  | .agg parts => uptoBulkAll parts + 1
  | .iface _ d => uptoBulk d + 1
  | .map entries => uptoBulkEntries entries + 1
  | .held _ => 1
def uptoBulkAll {H : Type} : List (DataW H) → Nat
  | [] => 0
  | d :: r => uptoBulk d + uptoBulkAll r
def uptoBulkEntries {H : Type} : List (Lit × DataW H) → Nat
  | [] => 0
  | x :: r => uptoBulkEntry x + uptoBulkEntries r
def uptoBulkEntry {H : Type} : Lit × DataW H → Nat
  | (.string bytes, d) => bytes.length + uptoBulk d + 1
  | (_, d) => uptoBulk d + 1
 end
def uptoSmall : (H : Type) → List (DataW H) → Bool := fun _ ds => decide (uptoBulkAll ds ≤ 1048576)
def OpenSpec.upto (s : _root_.Go.ChangeSpec) : _root_.Go.OpenSpec := { _root_.Go.OpenSpec.ofChange s with cond := some uptoSmall }

/-- 'peeragelaw10.FlagRight', WHERE WHAT IT READS IS OF BULK AT MOST 1048576: true; the input reads as it did. -/
def flagRightUptoRow : OpenClaim := { program := "ythdipbabfilciaa", sum := "2f27845b963bbffa12915b0dc6151d2efb5d4284ae20fb073cd550160dd293d0", func := "peerage/peeragelaw10.FlagRight", spec := "flagRight", apart := false, narrowed := true }
def FlagRightUptoSaid : Prop := flagRightUptoRow.holds Try.pinned (OpenSpec.upto flagRightSpec)

/-- 'peeragelaw10.FlagCanonical', WHERE WHAT IT READS IS OF BULK AT MOST 1048576: true; the input reads as it did. -/
def flagCanonicalUptoRow : OpenClaim := { program := "ythdipbabfilciaa", sum := "2f27845b963bbffa12915b0dc6151d2efb5d4284ae20fb073cd550160dd293d0", func := "peerage/peeragelaw10.FlagCanonical", spec := "flagCanonical", apart := false, narrowed := true }
def FlagCanonicalUptoSaid : Prop := flagCanonicalUptoRow.holds Try.pinned (OpenSpec.upto flagCanonicalSpec)

/-- 'peeragelaw10.FlagReads', WHERE WHAT IT READS IS OF BULK AT MOST 1048576: true; the input reads as it did. -/
def flagReadsUptoRow : OpenClaim := { program := "ythdipbabfilciaa", sum := "2f27845b963bbffa12915b0dc6151d2efb5d4284ae20fb073cd550160dd293d0", func := "peerage/peeragelaw10.FlagReads", spec := "flagReads", apart := false, narrowed := true }
def FlagReadsUptoSaid : Prop := flagReadsUptoRow.holds Try.pinned (OpenSpec.upto flagReadsSpec)

/-- 'peeragelaw10.FlagForms', WHERE WHAT IT READS IS OF BULK AT MOST 1048576: true; the input reads as it did. -/
def flagFormsUptoRow : OpenClaim := { program := "ythdipbabfilciaa", sum := "2f27845b963bbffa12915b0dc6151d2efb5d4284ae20fb073cd550160dd293d0", func := "peerage/peeragelaw10.FlagForms", spec := "flagForms", apart := false, narrowed := true }
def FlagFormsUptoSaid : Prop := flagFormsUptoRow.holds Try.pinned (OpenSpec.upto flagFormsSpec)

end Rows
end Go.Proofs.Ythdipbabfilciaa
