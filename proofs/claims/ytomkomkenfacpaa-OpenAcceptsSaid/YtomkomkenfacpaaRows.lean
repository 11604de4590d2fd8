/-
  No cell of these rows narrows 'for every input' (looked for: loops, veiled, ifaces, maps, wideKeys, modest, calm, conditions, laid).
  DERIVED. THE GIVEN ROWS OF THIS SEAT. 3 by the template 'for every input the law returns true; each argument reads behind the call as it read before'; 0 by the template 'total and deterministic' (their statements: YtomkomkenfacpaaTotals.lean).
  GIVEN WITH THE SEED: the statements are not yours to turn. If you find one false, say at which input.
  Laid BY PROGRAM, IN A SANDBOX (cutbox-rows.mjs): the forced cells as the released guide's own fill.sh prints them over the translation ba7a411e928021f6… (all of the seat's roots in one cut). By AI agents, Wed Nov 11 2026. No macro, syntax, notation, axiom, sorry.
-/
import Derived.Test.YtomkomkenfacpaaChecked
import GoSem.Claim
import GoSem.ClaimJoined
import GoSem.ClaimMapViews
import Derived.JoinedTies
import Derived.KernelRfl
namespace Go.Proofs.Ytomkomkenfacpaa
/- THE CELL 'sum', in the pinned program and in every row, IS THE sha256 OF THE DUMP (.gsa) THAT YtomkomkenfacpaaProg.lean LOADS. Nothing in Lean hashes anything: it is a label: what it is worth is what the hold of that sum in a sandbox is worth. -/
noncomputable def Try.pinned : Pinned := { name := "ytomkomkenfacpaa", sum := "ba7a411e928021f64592bada0947986f1150df13b65095ffa7bf5261bc182138", checked := Try.checked }
namespace Rows
def none {H : Type} : Left H := { results := [], args := [] }

/-- 'peeragelaw17.OpenSame': WHATEVER THE INPUT: true; the input reads as it did. -/
def openSameSpec : ChangeSpec := { name := "openSame", fn := fun _ => fun
  | [d1, d2] => { results := [.lit (.bool true)], args := [d1, d2] }
  | _ => none }
def openSameRow : OpenClaim := { program := "ytomkomkenfacpaa", sum := "ba7a411e928021f64592bada0947986f1150df13b65095ffa7bf5261bc182138", func := "peerage/peeragelaw17.OpenSame", spec := "openSame", unfollowed := true, recurses := true, apart := false }
def OpenSameSaid : Prop := openSameRow.holds Try.pinned (OpenSpec.ofChange openSameSpec)

/-- ITS FALSE NEIGHBOUR: 'it returns false'. Refute it at one input. -/
def openSameWrong : ChangeSpec := { name := "openSame", fn := fun _ => fun
  | [d1, d2] => { results := [.lit (.bool false)], args := [d1, d2] }
  | _ => none }
def OpenSameWrongFalsely : Prop := openSameRow.holds Try.pinned (OpenSpec.ofChange openSameWrong)

/-- 'peeragelaw17.OpenParses': WHATEVER THE INPUT: true; the input reads as it did. -/
def openParsesSpec : ChangeSpec := { name := "openParses", fn := fun _ => fun
  | [d] => { results := [.lit (.bool true)], args := [d] }
  | _ => none }
def openParsesRow : OpenClaim := { program := "ytomkomkenfacpaa", sum := "ba7a411e928021f64592bada0947986f1150df13b65095ffa7bf5261bc182138", func := "peerage/peeragelaw17.OpenParses", spec := "openParses", unfollowed := true, recurses := true, apart := false }
def OpenParsesSaid : Prop := openParsesRow.holds Try.pinned (OpenSpec.ofChange openParsesSpec)

/-- ITS FALSE NEIGHBOUR: 'it returns false'. Refute it at one input. -/
def openParsesWrong : ChangeSpec := { name := "openParses", fn := fun _ => fun
  | [d] => { results := [.lit (.bool false)], args := [d] }
  | _ => none }
def OpenParsesWrongFalsely : Prop := openParsesRow.holds Try.pinned (OpenSpec.ofChange openParsesWrong)

/-- 'peeragelaw17.OpenAccepts': WHATEVER THE INPUT: true; the input reads as it did. -/
def openAcceptsSpec : ChangeSpec := { name := "openAccepts", fn := fun _ => fun
  | [d] => { results := [.lit (.bool true)], args := [d] }
  | _ => none }
def openAcceptsRow : OpenClaim := { program := "ytomkomkenfacpaa", sum := "ba7a411e928021f64592bada0947986f1150df13b65095ffa7bf5261bc182138", func := "peerage/peeragelaw17.OpenAccepts", spec := "openAccepts", unfollowed := true, recurses := true, apart := false }
def OpenAcceptsSaid : Prop := openAcceptsRow.holds Try.pinned (OpenSpec.ofChange openAcceptsSpec)

/-- ITS FALSE NEIGHBOUR: 'it returns false'. Refute it at one input. -/
def openAcceptsWrong : ChangeSpec := { name := "openAccepts", fn := fun _ => fun
  | [d] => { results := [.lit (.bool false)], args := [d] }
  | _ => none }
def OpenAcceptsWrongFalsely : Prop := openAcceptsRow.holds Try.pinned (OpenSpec.ofChange openAcceptsWrong)

/- THE SECOND FORM. 'bulk': how many values and letters a reading holds, each counted each time it is reached (what is shared counts as often as it is met; a slice's spare places count too). A statement '..UptoSaid' is the law's where the arguments, and the package variables that the reading takes, are together of bulk at most 1048576: NARROWER than '..Said'. Prove '..Said' where nothing that the law and all that it calls make is longer than what came in: it says more and counts as full. Else prove '..UptoSaid'. A law counts once. -/
mutual
def uptoBulk {H : Type} : DataW H → Nat
  | .lit (.string bytes) => bytes.length + 1
  | .lit _ => 1
  | .nil => 1
  | .ptr d => uptoBulk d + 1
  | .slice elems spare => uptoBulkAll elems + uptoBulkAll spare + 1
  | .agg parts => uptoBulkAll parts + 1
  | .iface _ d => uptoBulk d + 1
  | .map entries => uptoBulkEntries entries + 1
  | .held _ => 1
def uptoBulkAll {H : Type} : List (DataW H) → Nat
  | [] => 0
  | d :: r => uptoBulk d + uptoBulkAll r
def uptoBulkEntries {H : Type} : List (Lit × DataW H) → Nat
  | [] => 0
  | x :: r => uptoBulkEntry x + uptoBulkEntries r
def uptoBulkEntry {H : Type} : Lit × DataW H → Nat
  | (.string bytes, d) => bytes.length + uptoBulk d + 1
  | (_, d) => uptoBulk d + 1
 end
def uptoSmall : (H : Type) → List (DataW H) → Bool := fun _ ds => decide (uptoBulkAll ds ≤ 1048576)
def OpenSpec.upto (s : _root_.Go.ChangeSpec) : _root_.Go.OpenSpec := { _root_.Go.OpenSpec.ofChange s with cond := some uptoSmall }

/-- 'peeragelaw17.OpenSame', WHERE WHAT IT READS IS OF BULK AT MOST 1048576: true; the input reads as it did. -/
def openSameUptoRow : OpenClaim := { program := "ytomkomkenfacpaa", sum := "ba7a411e928021f64592bada0947986f1150df13b65095ffa7bf5261bc182138", func := "peerage/peeragelaw17.OpenSame", spec := "openSame", unfollowed := true, recurses := true, apart := false, narrowed := true }
def OpenSameUptoSaid : Prop := openSameUptoRow.holds Try.pinned (OpenSpec.upto openSameSpec)

/-- 'peeragelaw17.OpenParses', WHERE WHAT IT READS IS OF BULK AT MOST 1048576: true; the input reads as it did. -/
def openParsesUptoRow : OpenClaim := { program := "ytomkomkenfacpaa", sum := "ba7a411e928021f64592bada0947986f1150df13b65095ffa7bf5261bc182138", func := "peerage/peeragelaw17.OpenParses", spec := "openParses", unfollowed := true, recurses := true, apart := false, narrowed := true }
def OpenParsesUptoSaid : Prop := openParsesUptoRow.holds Try.pinned (OpenSpec.upto openParsesSpec)

/-- 'peeragelaw17.OpenAccepts', WHERE WHAT IT READS IS OF BULK AT MOST 1048576: true; the input reads as it did. -/
def openAcceptsUptoRow : OpenClaim := { program := "ytomkomkenfacpaa", sum := "ba7a411e928021f64592bada0947986f1150df13b65095ffa7bf5261bc182138", func := "peerage/peeragelaw17.OpenAccepts", spec := "openAccepts", unfollowed := true, recurses := true, apart := false, narrowed := true }
def OpenAcceptsUptoSaid : Prop := openAcceptsUptoRow.holds Try.pinned (OpenSpec.upto openAcceptsSpec)

end Rows
end Go.Proofs.Ytomkomkenfacpaa
