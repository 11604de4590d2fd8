/- At: their contracts. -/
import Derived.Test.YtilfheociidloaaDoorRd
namespace Go.Proofs.YtilfheociidloaaDoor
open Go.RowKit
set_option linter.unusedVariables false
set_option linter.unusedSimpArgs false

/-! ### At, Left -/

theorem at_q (w : World) (q r : Nat) (ys : List Int) (t : Nat) (h : Rd w q r ys t) :
    Calls Tryd.prog 75 #[.pointer (some ⟨r, 0, none⟩)] w fun e w' => e = .returned (.int .i64 t) ∧ w' = w := by
  obtain ⟨A, c, hB, _⟩ := h
  have h1 := hB.cell 1
  clear hB
  go_enter Tryd.func75, Tryd.ntmps75
  go_wp2
  go_ret
  exact ⟨rfl, rfl⟩

end Go.Proofs.YtilfheociidloaaDoor
