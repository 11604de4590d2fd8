/-
  No cell of these rows narrows 'for every input' (looked for: loops, veiled, ifaces, maps, wideKeys, modest, calm, conditions, laid).
  DERIVED. THE GIVEN ROWS OF THIS SEAT. 6 by the template 'for every input the law returns true; each argument reads behind the call as it read before'; 0 by the template 'total and deterministic' (their statements: YtkkfigdfgagimaaTotals.lean).
  GIVEN WITH THE SEED: the statements are not yours to turn. If you find one false, say at which input.
  Laid BY PROGRAM, IN A SANDBOX (cutbox-rows.mjs): the forced cells as the released guide's own fill.sh prints them over the translation de5d40fed02c47af… (all of the seat's roots in one cut). By AI agents, Wed Nov 11 2026. No macro, syntax, notation, axiom, sorry.
-/
import Derived.Test.YtkkfigdfgagimaaChecked
import GoSem.Claim
import GoSem.ClaimJoined
import GoSem.ClaimMapViews
import Derived.JoinedTies
import Derived.KernelRfl
namespace Go.Proofs.Ytkkfigdfgagimaa
/- THE CELL 'sum', in the pinned program and in every row, IS THE sha256 OF THE DUMP (.gsa) THAT YtkkfigdfgagimaaProg.lean LOADS. Nothing in Lean hashes anything: it is a label: what it is worth is what the hold of that sum in a sandbox is worth. -/
noncomputable def Try.pinned : Pinned := { name := "ytkkfigdfgagimaa", sum := "de5d40fed02c47aff6d94515fc72ca1ff8ca68669a208735530bcb223c20745e", checked := Try.checked }
namespace Rows
def none {H : Type} : Left H := { results := [], args := [] }

/-- 'peeragelaw03.NlriUnique': WHATEVER THE INPUT: true; the input reads as it did. -/
def nlriUniqueSpec : ChangeSpec := { name := "nlriUnique", fn := fun _ => fun
  | [d] => { results := [.lit (.bool true)], args := [d] }
  | _ => none }
def nlriUniqueRow : OpenClaim := { program := "ytkkfigdfgagimaa", sum := "de5d40fed02c47aff6d94515fc72ca1ff8ca68669a208735530bcb223c20745e", func := "peerage/peeragelaw03.NlriUnique", spec := "nlriUnique", unfollowed := true, recurses := true, plainKeys := false, apart := false }
def NlriUniqueSaid : Prop := nlriUniqueRow.holds Try.pinned (OpenSpec.ofChange nlriUniqueSpec)

/-- ITS FALSE NEIGHBOUR: 'it returns false'. Refute it at one input. -/
def nlriUniqueWrong : ChangeSpec := { name := "nlriUnique", fn := fun _ => fun
  | [d] => { results := [.lit (.bool false)], args := [d] }
  | _ => none }
def NlriUniqueWrongFalsely : Prop := nlriUniqueRow.holds Try.pinned (OpenSpec.ofChange nlriUniqueWrong)

/-- 'peeragelaw03.NlriSplits': WHATEVER THE INPUT: true; the input reads as it did. -/
def nlriSplitsSpec : ChangeSpec := { name := "nlriSplits", fn := fun _ => fun
  | [d1, d2, d3] => { results := [.lit (.bool true)], args := [d1, d2, d3] }
  | _ => none }
def nlriSplitsRow : OpenClaim := { program := "ytkkfigdfgagimaa", sum := "de5d40fed02c47aff6d94515fc72ca1ff8ca68669a208735530bcb223c20745e", func := "peerage/peeragelaw03.NlriSplits", spec := "nlriSplits", unfollowed := true, recurses := true, plainKeys := false, apart := false }
def NlriSplitsSaid : Prop := nlriSplitsRow.holds Try.pinned (OpenSpec.ofChange nlriSplitsSpec)

/-- ITS FALSE NEIGHBOUR: 'it returns false'. Refute it at one input. -/
def nlriSplitsWrong : ChangeSpec := { name := "nlriSplits", fn := fun _ => fun
  | [d1, d2, d3] => { results := [.lit (.bool false)], args := [d1, d2, d3] }
  | _ => none }
def NlriSplitsWrongFalsely : Prop := nlriSplitsRow.holds Try.pinned (OpenSpec.ofChange nlriSplitsWrong)

/-- 'peeragelaw03.NlriKeeps': WHATEVER THE INPUT: true; the input reads as it did. -/
def nlriKeepsSpec : ChangeSpec := { name := "nlriKeeps", fn := fun _ => fun
  | [d] => { results := [.lit (.bool true)], args := [d] }
  | _ => none }
def nlriKeepsRow : OpenClaim := { program := "ytkkfigdfgagimaa", sum := "de5d40fed02c47aff6d94515fc72ca1ff8ca68669a208735530bcb223c20745e", func := "peerage/peeragelaw03.NlriKeeps", spec := "nlriKeeps", unfollowed := true, recurses := true, plainKeys := false, apart := false }
def NlriKeepsSaid : Prop := nlriKeepsRow.holds Try.pinned (OpenSpec.ofChange nlriKeepsSpec)

/-- ITS FALSE NEIGHBOUR: 'it returns false'. Refute it at one input. -/
def nlriKeepsWrong : ChangeSpec := { name := "nlriKeeps", fn := fun _ => fun
  | [d] => { results := [.lit (.bool false)], args := [d] }
  | _ => none }
def NlriKeepsWrongFalsely : Prop := nlriKeepsRow.holds Try.pinned (OpenSpec.ofChange nlriKeepsWrong)

/-- 'peeragelaw03.NlriReads': WHATEVER THE INPUT: true; the input reads as it did. -/
def nlriReadsSpec : ChangeSpec := { name := "nlriReads", fn := fun _ => fun
  | [d1, d2, d3] => { results := [.lit (.bool true)], args := [d1, d2, d3] }
  | _ => none }
def nlriReadsRow : OpenClaim := { program := "ytkkfigdfgagimaa", sum := "de5d40fed02c47aff6d94515fc72ca1ff8ca68669a208735530bcb223c20745e", func := "peerage/peeragelaw03.NlriReads", spec := "nlriReads", unfollowed := true, recurses := true, plainKeys := false, apart := false }
def NlriReadsSaid : Prop := nlriReadsRow.holds Try.pinned (OpenSpec.ofChange nlriReadsSpec)

/-- ITS FALSE NEIGHBOUR: 'it returns false'. Refute it at one input. -/
def nlriReadsWrong : ChangeSpec := { name := "nlriReads", fn := fun _ => fun
  | [d1, d2, d3] => { results := [.lit (.bool false)], args := [d1, d2, d3] }
  | _ => none }
def NlriReadsWrongFalsely : Prop := nlriReadsRow.holds Try.pinned (OpenSpec.ofChange nlriReadsWrong)

/-- 'peeragelaw03.NlriJoins': WHATEVER THE INPUT: true; the input reads as it did. -/
def nlriJoinsSpec : ChangeSpec := { name := "nlriJoins", fn := fun _ => fun
  | [d1, d2, d3] => { results := [.lit (.bool true)], args := [d1, d2, d3] }
  | _ => none }
def nlriJoinsRow : OpenClaim := { program := "ytkkfigdfgagimaa", sum := "de5d40fed02c47aff6d94515fc72ca1ff8ca68669a208735530bcb223c20745e", func := "peerage/peeragelaw03.NlriJoins", spec := "nlriJoins", unfollowed := true, recurses := true, plainKeys := false, apart := false }
def NlriJoinsSaid : Prop := nlriJoinsRow.holds Try.pinned (OpenSpec.ofChange nlriJoinsSpec)

/-- ITS FALSE NEIGHBOUR: 'it returns false'. Refute it at one input. -/
def nlriJoinsWrong : ChangeSpec := { name := "nlriJoins", fn := fun _ => fun
  | [d1, d2, d3] => { results := [.lit (.bool false)], args := [d1, d2, d3] }
  | _ => none }
def NlriJoinsWrongFalsely : Prop := nlriJoinsRow.holds Try.pinned (OpenSpec.ofChange nlriJoinsWrong)

/-- 'peeragelaw03.NlriForms': WHATEVER THE INPUT: true; the input reads as it did. -/
def nlriFormsSpec : ChangeSpec := { name := "nlriForms", fn := fun _ => fun
  | [d1, d2, d3] => { results := [.lit (.bool true)], args := [d1, d2, d3] }
  | _ => none }
def nlriFormsRow : OpenClaim := { program := "ytkkfigdfgagimaa", sum := "de5d40fed02c47aff6d94515fc72ca1ff8ca68669a208735530bcb223c20745e", func := "peerage/peeragelaw03.NlriForms", spec := "nlriForms", unfollowed := true, recurses := true, plainKeys := false, apart := false }
def NlriFormsSaid : Prop := nlriFormsRow.holds Try.pinned (OpenSpec.ofChange nlriFormsSpec)

/-- ITS FALSE NEIGHBOUR: 'it returns false'. Refute it at one input. -/
def nlriFormsWrong : ChangeSpec := { name := "nlriForms", fn := fun _ => fun
  | [d1, d2, d3] => { results := [.lit (.bool false)], args := [d1, d2, d3] }
  | _ => none }
def NlriFormsWrongFalsely : Prop := nlriFormsRow.holds Try.pinned (OpenSpec.ofChange nlriFormsWrong)

/- THE SECOND FORM. 'bulk': how many values and letters a reading holds, each counted each time it is reached (what is shared counts as often as it is met; a slice's spare places count too). A statement '..UptoSaid' is the law's where the arguments, and the package variables that the reading takes, are together of bulk at most 1048576: NARROWER than '..Said'. Prove '..Said' where nothing that the law and all that it calls make is longer than what came in: it says more and counts as full. Else prove '..UptoSaid'. A law counts once. -/
mutual
def uptoBulk {H : Type} : DataW H → Nat
  | .lit (.string bytes) => bytes.length + 1
  | .lit _ => 1
  | .nil => 1
  | .ptr d => uptoBulk d + 1
  | .slice elems spare => uptoBulkAll elems + uptoBulkAll spare + 1
  | .agg parts => uptoBulkAll parts + 1
  | .iface _ d => uptoBulk d + 1
  | .map entries => uptoBulkEntries entries + 1
  | .held _ => 1
def uptoBulkAll {H : Type} : List (DataW H) → Nat
  | [] => 0
  | d :: r => uptoBulk d + uptoBulkAll r
def uptoBulkEntries {H : Type} : List (Lit × DataW H) → Nat
  | [] => 0
  | x :: r => uptoBulkEntry x + uptoBulkEntries r
def uptoBulkEntry {H : Type} : Lit × DataW H → Nat
  | (.string bytes, d) => bytes.length + uptoBulk d + 1
  | (_, d) => uptoBulk d + 1
 end
def uptoSmall : (H : Type) → List (DataW H) → Bool := fun _ ds => decide (uptoBulkAll ds ≤ 1048576)
def OpenSpec.upto (s : _root_.Go.ChangeSpec) : _root_.Go.OpenSpec := { _root_.Go.OpenSpec.ofChange s with cond := some uptoSmall }

/-- 'peeragelaw03.NlriUnique', WHERE WHAT IT READS IS OF BULK AT MOST 1048576: true; the input reads as it did. -/
def nlriUniqueUptoRow : OpenClaim := { program := "ytkkfigdfgagimaa", sum := "de5d40fed02c47aff6d94515fc72ca1ff8ca68669a208735530bcb223c20745e", func := "peerage/peeragelaw03.NlriUnique", spec := "nlriUnique", unfollowed := true, recurses := true, plainKeys := false, apart := false, narrowed := true }
def NlriUniqueUptoSaid : Prop := nlriUniqueUptoRow.holds Try.pinned (OpenSpec.upto nlriUniqueSpec)

/-- 'peeragelaw03.NlriSplits', WHERE WHAT IT READS IS OF BULK AT MOST 1048576: true; the input reads as it did. -/
def nlriSplitsUptoRow : OpenClaim := { program := "ytkkfigdfgagimaa", sum := "de5d40fed02c47aff6d94515fc72ca1ff8ca68669a208735530bcb223c20745e", func := "peerage/peeragelaw03.NlriSplits", spec := "nlriSplits", unfollowed := true, recurses := true, plainKeys := false, apart := false, narrowed := true }
def NlriSplitsUptoSaid : Prop := nlriSplitsUptoRow.holds Try.pinned (OpenSpec.upto nlriSplitsSpec)

/-- 'peeragelaw03.NlriKeeps', WHERE WHAT IT READS IS OF BULK AT MOST 1048576: true; the input reads as it did. -/
def nlriKeepsUptoRow : OpenClaim := { program := "ytkkfigdfgagimaa", sum := "de5d40fed02c47aff6d94515fc72ca1ff8ca68669a208735530bcb223c20745e", func := "peerage/peeragelaw03.NlriKeeps", spec := "nlriKeeps", unfollowed := true, recurses := true, plainKeys := false, apart := false, narrowed := true }
def NlriKeepsUptoSaid : Prop := nlriKeepsUptoRow.holds Try.pinned (OpenSpec.upto nlriKeepsSpec)

/-- 'peeragelaw03.NlriReads', WHERE WHAT IT READS IS OF BULK AT MOST 1048576: true; the input reads as it did. -/
def nlriReadsUptoRow : OpenClaim := { program := "ytkkfigdfgagimaa", sum := "de5d40fed02c47aff6d94515fc72ca1ff8ca68669a208735530bcb223c20745e", func := "peerage/peeragelaw03.NlriReads", spec := "nlriReads", unfollowed := true, recurses := true, plainKeys := false, apart := false, narrowed := true }
def NlriReadsUptoSaid : Prop := nlriReadsUptoRow.holds Try.pinned (OpenSpec.upto nlriReadsSpec)

/-- 'peeragelaw03.NlriJoins', WHERE WHAT IT READS IS OF BULK AT MOST 1048576: true; the input reads as it did. -/
def nlriJoinsUptoRow : OpenClaim := { program := "ytkkfigdfgagimaa", sum := "de5d40fed02c47aff6d94515fc72ca1ff8ca68669a208735530bcb223c20745e", func := "peerage/peeragelaw03.NlriJoins", spec := "nlriJoins", unfollowed := true, recurses := true, plainKeys := false, apart := false, narrowed := true }
def NlriJoinsUptoSaid : Prop := nlriJoinsUptoRow.holds Try.pinned (OpenSpec.upto nlriJoinsSpec)

/-- 'peeragelaw03.NlriForms', WHERE WHAT IT READS IS OF BULK AT MOST 1048576: true; the input reads as it did. -/
def nlriFormsUptoRow : OpenClaim := { program := "ytkkfigdfgagimaa", sum := "de5d40fed02c47aff6d94515fc72ca1ff8ca68669a208735530bcb223c20745e", func := "peerage/peeragelaw03.NlriForms", spec := "nlriForms", unfollowed := true, recurses := true, plainKeys := false, apart := false, narrowed := true }
def NlriFormsUptoSaid : Prop := nlriFormsUptoRow.holds Try.pinned (OpenSpec.upto nlriFormsSpec)

end Rows
end Go.Proofs.Ytkkfigdfgagimaa
