/- Chapter 10: the law's 'alive'. -/
import Derived.Test.YtffdjfnipnmlcaaDoorFlagC
import Derived.Test.YtffdjfnipnmlcaaDoorFlagD
namespace Go.Proofs.YtffdjfnipnmlcaaDoor
open Go.RowKit Go.Maps
set_option linter.unusedVariables false
set_option linter.unusedSimpArgs false

theorem formL_alive : formL 64 1 1 = [64, 1, 1] := by decide

theorem alive_form (w : World) : Calls Tryd.prog 12 #[head 64 1 1] w (FormYes 64 1 1 w) :=
  fbytes_good 64 1 1 w (by decide) (by decide) (by decide) (by decide) (by decide) (by decide) (by decide)

theorem alive_head (w : World) : Calls Tryd.prog 11 #[.int .i64 1, .bool false, .int .i64 1] w (Stay (.tuple #[head 64 1 1, .bool true]) w) := by
  have h := canon_good 1 false 1 (by decide) w (by unfold CanGood; decide)
  exact h

theorem form_three {w w' : World} {A : Option Addr} {c base : Nat} (h : w.ownsRow base 5 1 (.slice A (formL 64 1 1).length c) (formL 64 1 1).length (bs (formL 64 1 1))) :
    ∃ g, A = some ⟨g, 0, none⟩ ∧ w.cell? ⟨g, 0, none⟩ = some (.int .u8 64) ∧ w.cell? ⟨g, 1, none⟩ = some (.int .u8 1) ∧ w.cell? ⟨g, 2, none⟩ = some (.int .u8 1) := by
  rw [formL_alive] at h
  obtain ⟨g, hg, _, _, hc, _⟩ := own_at h (by decide)
  exact ⟨g, hg, hc 0 _ rfl, hc 1 _ rfl, hc 2 _ rfl⟩

set_option maxHeartbeats 4000000 in
theorem alive_any (w : World) : Calls Tryd.prog 4 #[] w (Stay (.bool true) w) := by
  have HF := Lib.hid alive_form
  have HH := Lib.hid alive_head
  have HL : (formL 64 1 1).length = 3 := by decide
  unfold head at HF HH
  go_enter Tryd.func4, Tryd.ntmps4
  go_wp2_with (first
    | (go_at_call 11; refine (HH.out _).mono ?_; rintro e w1 ⟨rfl, hK1⟩; obtain ⟨x1, x2, x3, x4, x5, x6, x7⟩ := (Bk.fresh w1 32 #[.int .i64 64, .int .i64 1, .int .i64 1]).three)
    | (go_at_call 12; refine (HF.out _).mono ?_; rintro e w2 ⟨A, c, rfl, hown, hK2⟩; obtain ⟨g, rfl, y1, y2, y3⟩ := form_three (w' := w2) hown; replace hown := Lib.hid hown))
  go_ret
  exact ⟨rfl, (hK1.alloc _).and hK2⟩

end Go.Proofs.YtffdjfnipnmlcaaDoor
