/-
  No cell of these rows narrows 'for every input' (looked for: loops, veiled, ifaces, maps, wideKeys, modest, calm, conditions, laid).
  DERIVED. THE GIVEN ROWS OF THIS SEAT. 3 by the template 'for every input the law returns true; each argument reads behind the call as it read before'; 0 by the template 'total and deterministic' (their statements: YtnennkcomkenkaaTotals.lean).
  GIVEN WITH THE SEED: the statements are not yours to turn. If you find one false, say at which input.
  Laid BY PROGRAM, IN A SANDBOX (cutbox-rows.mjs): the forced cells as the released guide's own fill.sh prints them over the translation f31557a3182fbec1… (all of the seat's roots in one cut). By AI agents, Wed Nov 11 2026. No macro, syntax, notation, axiom, sorry.
-/
import Derived.Test.YtnennkcomkenkaaChecked
import GoSem.Claim
import GoSem.ClaimJoined
import GoSem.ClaimMapViews
import Derived.JoinedTies
import Derived.KernelRfl
namespace Go.Proofs.Ytnennkcomkenkaa
/- THE CELL 'sum', in the pinned program and in every row, IS THE sha256 OF THE DUMP (.gsa) THAT YtnennkcomkenkaaProg.lean LOADS. Nothing in Lean hashes anything: it is a label: what it is worth is what the hold of that sum in a sandbox is worth. -/
noncomputable def Try.pinned : Pinned := { name := "ytnennkcomkenkaa", sum := "f31557a3182fbec15b03627ab6970cf15f86a365e22e8da0c014e90bdfcd11fc", checked := Try.checked }
namespace Rows
def none {H : Type} : Left H := { results := [], args := [] }

/-- 'peeragelaw16.CapabilityForms': WHATEVER THE INPUT: true; the input reads as it did. -/
def capabilityFormsSpec : ChangeSpec := { name := "capabilityForms", fn := fun _ => fun
  | [d] => { results := [.lit (.bool true)], args := [d] }
  | _ => none }
def capabilityFormsRow : OpenClaim := { program := "ytnennkcomkenkaa", sum := "f31557a3182fbec15b03627ab6970cf15f86a365e22e8da0c014e90bdfcd11fc", func := "peerage/peeragelaw16.CapabilityForms", spec := "capabilityForms", unfollowed := true, recurses := true, apart := false }
def CapabilityFormsSaid : Prop := capabilityFormsRow.holds Try.pinned (OpenSpec.ofChange capabilityFormsSpec)

/-- ITS FALSE NEIGHBOUR: 'it returns false'. Refute it at one input. -/
def capabilityFormsWrong : ChangeSpec := { name := "capabilityForms", fn := fun _ => fun
  | [d] => { results := [.lit (.bool false)], args := [d] }
  | _ => none }
def CapabilityFormsWrongFalsely : Prop := capabilityFormsRow.holds Try.pinned (OpenSpec.ofChange capabilityFormsWrong)

/-- 'peeragelaw16.CapabilityReads': WHATEVER THE INPUT: true; the input reads as it did. -/
def capabilityReadsSpec : ChangeSpec := { name := "capabilityReads", fn := fun _ => fun
  | [d] => { results := [.lit (.bool true)], args := [d] }
  | _ => none }
def capabilityReadsRow : OpenClaim := { program := "ytnennkcomkenkaa", sum := "f31557a3182fbec15b03627ab6970cf15f86a365e22e8da0c014e90bdfcd11fc", func := "peerage/peeragelaw16.CapabilityReads", spec := "capabilityReads", unfollowed := true, recurses := true, apart := false }
def CapabilityReadsSaid : Prop := capabilityReadsRow.holds Try.pinned (OpenSpec.ofChange capabilityReadsSpec)

/-- ITS FALSE NEIGHBOUR: 'it returns false'. Refute it at one input. -/
def capabilityReadsWrong : ChangeSpec := { name := "capabilityReads", fn := fun _ => fun
  | [d] => { results := [.lit (.bool false)], args := [d] }
  | _ => none }
def CapabilityReadsWrongFalsely : Prop := capabilityReadsRow.holds Try.pinned (OpenSpec.ofChange capabilityReadsWrong)

/-- 'peeragelaw16.CapabilitySame': WHATEVER THE INPUT: true; the input reads as it did. -/
def capabilitySameSpec : ChangeSpec := { name := "capabilitySame", fn := fun _ => fun
  | [d1, d2] => { results := [.lit (.bool true)], args := [d1, d2] }
  | _ => none }
def capabilitySameRow : OpenClaim := { program := "ytnennkcomkenkaa", sum := "f31557a3182fbec15b03627ab6970cf15f86a365e22e8da0c014e90bdfcd11fc", func := "peerage/peeragelaw16.CapabilitySame", spec := "capabilitySame", unfollowed := true, recurses := true, apart := false }
def CapabilitySameSaid : Prop := capabilitySameRow.holds Try.pinned (OpenSpec.ofChange capabilitySameSpec)

/-- ITS FALSE NEIGHBOUR: 'it returns false'. Refute it at one input. -/
def capabilitySameWrong : ChangeSpec := { name := "capabilitySame", fn := fun _ => fun
  | [d1, d2] => { results := [.lit (.bool false)], args := [d1, d2] }
  | _ => none }
def CapabilitySameWrongFalsely : Prop := capabilitySameRow.holds Try.pinned (OpenSpec.ofChange capabilitySameWrong)

/- THE SECOND FORM. 'bulk': how many values and letters a reading holds, each counted each time it is reached (what is shared counts as often as it is met; a slice's spare places count too). A statement '..UptoSaid' is the law's where the arguments, and the package variables that the reading takes, are together of bulk at most 1048576: NARROWER than '..Said'. Prove '..Said' where nothing that the law and all that it calls make is longer than what came in: it says more and counts as full. Else prove '..UptoSaid'. A law counts once. -/
mutual
def uptoBulk {H : Type} : DataW H → Nat
  | .lit (.string bytes) => bytes.length + 1
  | .lit _ => 1
  | .nil => 1
  | .ptr d => uptoBulk d + 1
  | .slice elems spare => uptoBulkAll elems + uptoBulkAll spare + 1
  | .agg parts => uptoBulkAll parts + 1
  | .iface _ d => uptoBulk d + 1
  | .map entries => uptoBulkEntries entries + 1
  | .held _ => 1
def uptoBulkAll {H : Type} : List (DataW H) → Nat
  | [] => 0
  | d :: r => uptoBulk d + uptoBulkAll r
def uptoBulkEntries {H : Type} : List (Lit × DataW H) → Nat
  | [] => 0
  | x :: r => uptoBulkEntry x + uptoBulkEntries r
def uptoBulkEntry {H : Type} : Lit × DataW H → Nat
  | (.string bytes, d) => bytes.length + uptoBulk d + 1
  | (_, d) => uptoBulk d + 1
 end
def uptoSmall : (H : Type) → List (DataW H) → Bool := fun _ ds => decide (uptoBulkAll ds ≤ 1048576)
def OpenSpec.upto (s : _root_.Go.ChangeSpec) : _root_.Go.OpenSpec := { _root_.Go.OpenSpec.ofChange s with cond := some uptoSmall }

/-- 'peeragelaw16.CapabilityForms', WHERE WHAT IT READS IS OF BULK AT MOST 1048576: true; the input reads as it did. -/
def capabilityFormsUptoRow : OpenClaim := { program := "ytnennkcomkenkaa", sum := "f31557a3182fbec15b03627ab6970cf15f86a365e22e8da0c014e90bdfcd11fc", func := "peerage/peeragelaw16.CapabilityForms", spec := "capabilityForms", unfollowed := true, recurses := true, apart := false, narrowed := true }
def CapabilityFormsUptoSaid : Prop := capabilityFormsUptoRow.holds Try.pinned (OpenSpec.upto capabilityFormsSpec)

/-- 'peeragelaw16.CapabilityReads', WHERE WHAT IT READS IS OF BULK AT MOST 1048576: true; the input reads as it did. -/
def capabilityReadsUptoRow : OpenClaim := { program := "ytnennkcomkenkaa", sum := "f31557a3182fbec15b03627ab6970cf15f86a365e22e8da0c014e90bdfcd11fc", func := "peerage/peeragelaw16.CapabilityReads", spec := "capabilityReads", unfollowed := true, recurses := true, apart := false, narrowed := true }
def CapabilityReadsUptoSaid : Prop := capabilityReadsUptoRow.holds Try.pinned (OpenSpec.upto capabilityReadsSpec)

/-- 'peeragelaw16.CapabilitySame', WHERE WHAT IT READS IS OF BULK AT MOST 1048576: true; the input reads as it did. -/
def capabilitySameUptoRow : OpenClaim := { program := "ytnennkcomkenkaa", sum := "f31557a3182fbec15b03627ab6970cf15f86a365e22e8da0c014e90bdfcd11fc", func := "peerage/peeragelaw16.CapabilitySame", spec := "capabilitySame", unfollowed := true, recurses := true, apart := false, narrowed := true }
def CapabilitySameUptoSaid : Prop := capabilitySameUptoRow.holds Try.pinned (OpenSpec.upto capabilitySameSpec)

end Rows
end Go.Proofs.Ytnennkcomkenkaa
