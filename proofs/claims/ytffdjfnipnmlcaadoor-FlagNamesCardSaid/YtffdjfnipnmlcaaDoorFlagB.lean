/- Package flag's width: contracts by walking the Go text. No condition but that the numbers are of their kinds. -/
import Derived.Test.YtffdjfnipnmlcaaDoorFlagA
namespace Go.Proofs.YtffdjfnipnmlcaaDoor
open Go.RowKit Go.Maps
set_option linter.unusedVariables false
set_option linter.unusedSimpArgs false

/-- How many bytes the length has. -/
def widthI (f : Int) : Int := if fbit f 4 then 2 else 1

theorem width_any (f : Int) (w : World) : Calls Tryd.prog 23 #[.int .i64 f] w fun e w' => e = .returned (.int .i64 (widthI f)) ∧ w = w' := by
  have e4 := and_16 f
  unfold widthI
  revert e4
  cases fbit f 4
  all_goals
    intro e4
    simp only [Bool.false_eq_true, if_false, if_true] at e4
    go_enter Tryd.func23, Tryd.ntmps23
    go_wp2
    go_ret
    exact ⟨rfl, rfl⟩

end Go.Proofs.YtffdjfnipnmlcaaDoor
