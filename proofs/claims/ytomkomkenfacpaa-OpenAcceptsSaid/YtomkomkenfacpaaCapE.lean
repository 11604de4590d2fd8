/- Bytes of the reference: its contract by walking the Go text. -/
import Derived.Test.YtomkomkenfacpaaCapD
import Derived.Test.YtomkomkenfacpaaApp
import Derived.Deep.RegionHeld3
namespace Go.Proofs.Ytomkomkenfacpaa
open Go.RowKit
set_option linter.unusedVariables false
set_option linter.unusedSimpArgs false

theorem form_le (xs : List CapI) (j : Nat) : (formC (xs.take j)).length ≤ (formC xs).length := by
  conv => rhs; rw [← List.take_append_drop j xs]
  simp only [formC, List.flatMap_append, List.length_append]
  omega

end Go.Proofs.Ytomkomkenfacpaa
