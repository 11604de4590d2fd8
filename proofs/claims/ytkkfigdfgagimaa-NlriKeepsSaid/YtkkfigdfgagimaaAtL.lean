/- At and Left: their contracts. -/
import Derived.Test.YtkkfigdfgagimaaRd
namespace Go.Proofs.Ytkkfigdfgagimaa
open Go.RowKit
set_option linter.unusedVariables false
set_option linter.unusedSimpArgs false

/-! ### At, Left -/

theorem at_any (w : World) (q r : Nat) (ys : List Int) (t : Nat) (h : Rd w q r ys t) :
    Calls Try.prog 38 #[.pointer (some ⟨r, 0, none⟩)] w (Stay (.int .i64 t) w) := by
  obtain ⟨A, c, hB, _⟩ := h
  have h1 := hB.cell 1
  clear hB
  go_enter Try.func38, Try.ntmps38
  go_wp2
  go_ret
  exact ⟨rfl, Kp.refl _ _⟩

theorem left_any (w : World) (q r : Nat) (ys : List Int) (t : Nat) (h : Rd w q r ys t) :
    Calls Try.prog 37 #[.pointer (some ⟨r, 0, none⟩)] w (Stay (.int .i64 ys.length) w) := by
  obtain ⟨A, c, hB, _⟩ := h
  have h0 := hB.cell 0
  clear hB
  go_enter Try.func37, Try.ntmps37
  go_wp2
  go_ret
  exact ⟨rfl, Kp.refl _ _⟩

theorem at_nil (w : World) : Calls Try.prog 38 #[.pointer none] w (Stay (.int .i64 0) w) := by
  go_enter Try.func38, Try.ntmps38
  go_wp2
  go_ret
  exact ⟨rfl, Kp.refl _ _⟩

theorem left_nil (w : World) : Calls Try.prog 37 #[.pointer none] w (Stay (.int .i64 0) w) := by
  go_enter Try.func37, Try.ntmps37
  go_wp2
  go_ret
  exact ⟨rfl, Kp.refl _ _⟩

/-- The same, for a region that draws its order. -/
theorem at_q (w : World) (q r : Nat) (ys : List Int) (t : Nat) (h : Rd w q r ys t) :
    Calls Try.prog 38 #[.pointer (some ⟨r, 0, none⟩)] w fun e w' => e = .returned (.int .i64 t) ∧ w' = w := by
  obtain ⟨A, c, hB, _⟩ := h
  have h1 := hB.cell 1
  clear hB
  go_enter Try.func38, Try.ntmps38
  go_wp2
  go_ret
  exact ⟨rfl, rfl⟩

theorem left_q (w : World) (q r : Nat) (ys : List Int) (t : Nat) (h : Rd w q r ys t) :
    Calls Try.prog 37 #[.pointer (some ⟨r, 0, none⟩)] w fun e w' => e = .returned (.int .i64 ys.length) ∧ w' = w := by
  obtain ⟨A, c, hB, _⟩ := h
  have h0 := hB.cell 0
  clear hB
  go_enter Try.func37, Try.ntmps37
  go_wp2
  go_ret
  exact ⟨rfl, rfl⟩

end Go.Proofs.Ytkkfigdfgagimaa
