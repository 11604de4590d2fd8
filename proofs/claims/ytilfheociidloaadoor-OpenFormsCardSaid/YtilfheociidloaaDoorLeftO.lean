/- Left: its contracts. -/
import Derived.Test.YtilfheociidloaaDoorRd
namespace Go.Proofs.YtilfheociidloaaDoor
open Go.RowKit
set_option linter.unusedVariables false
set_option linter.unusedSimpArgs false

theorem left_any (w : World) (q r : Nat) (ys : List Int) (t : Nat) (h : Rd w q r ys t) :
    Calls Tryd.prog 60 #[.pointer (some ⟨r, 0, none⟩)] w (Stay (.int .i64 ys.length) w) := by
  obtain ⟨A, c, hB, _⟩ := h
  have h0 := hB.cell 0
  clear hB
  go_enter Tryd.func60, Tryd.ntmps60
  go_wp2
  go_ret
  exact ⟨rfl, Kp.refl _ _⟩

theorem left_nil (w : World) : Calls Tryd.prog 60 #[.pointer none] w (Stay (.int .i64 0) w) := by
  go_enter Tryd.func60, Tryd.ntmps60
  go_wp2
  go_ret
  exact ⟨rfl, Kp.refl _ _⟩

theorem left_q (w : World) (q r : Nat) (ys : List Int) (t : Nat) (h : Rd w q r ys t) :
    Calls Tryd.prog 60 #[.pointer (some ⟨r, 0, none⟩)] w fun e w' => e = .returned (.int .i64 ys.length) ∧ w' = w := by
  obtain ⟨A, c, hB, _⟩ := h
  have h0 := hB.cell 0
  clear hB
  go_enter Tryd.func60, Tryd.ntmps60
  go_wp2
  go_ret
  exact ⟨rfl, rfl⟩

end Go.Proofs.YtilfheociidloaaDoor
