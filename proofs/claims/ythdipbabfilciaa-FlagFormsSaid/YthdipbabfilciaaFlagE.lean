/- Chapter 10: the law's 'alive', and what a canonical head is worth: plain laws. -/
import Derived.Test.YthdipbabfilciaaFlagC
import Derived.Test.YthdipbabfilciaaFlagCR
import Derived.Test.YthdipbabfilciaaFlagD
namespace Go.Proofs.Ythdipbabfilciaa
open Go.RowKit Go.Maps
set_option linter.unusedVariables false
set_option linter.unusedSimpArgs false

theorem formL_alive : formL 64 1 1 = [64, 1, 1] := by decide

theorem alive_form (w : World) : Calls Try.prog 14 #[head 64 1 1] w (FormYes 64 1 1 w) :=
  fbytes_good 64 1 1 w (by decide) (by decide) (by decide) (by decide) (by decide) (by decide) (by decide)

theorem alive_head (w : World) : Calls Try.prog 12 #[.int .i64 1, .bool false, .int .i64 1] w (Stay (.tuple #[head 64 1 1, .bool true]) w) := by
  have h := canon_good 1 false 1 (by decide) w (by unfold CanGood; decide)
  exact h

theorem form_three {w w' : World} {A : Option Addr} {c base : Nat} (h : w.ownsRow base 5 1 (.slice A (formL 64 1 1).length c) (formL 64 1 1).length (bs (formL 64 1 1))) :
    ∃ g, A = some ⟨g, 0, none⟩ ∧ w.cell? ⟨g, 0, none⟩ = some (.int .u8 64) ∧ w.cell? ⟨g, 1, none⟩ = some (.int .u8 1) ∧ w.cell? ⟨g, 2, none⟩ = some (.int .u8 1) := by
  rw [formL_alive] at h
  obtain ⟨g, hg, _, _, hc, _⟩ := own_at h (by decide)
  exact ⟨g, hg, hc 0 _ rfl, hc 1 _ rfl, hc 2 _ rfl⟩

set_option maxHeartbeats 4000000 in
theorem alive_any (w : World) : Calls Try.prog 10 #[] w (Stay (.bool true) w) := by
  have HF := Lib.hid alive_form
  have HH := Lib.hid alive_head
  have HL : (formL 64 1 1).length = 3 := by decide
  unfold head at HF HH
  go_enter Try.func10, Try.ntmps10
  go_wp2_with (first
    | (go_at_call 12; refine (HH.out _).mono ?_; rintro e w1 ⟨rfl, hK1⟩; obtain ⟨x1, x2, x3, x4, x5, x6, x7⟩ := (Bk.fresh w1 29 #[.int .i64 64, .int .i64 1, .int .i64 1]).three)
    | (go_at_call 14; refine (HF.out _).mono ?_; rintro e w2 ⟨A, c, rfl, hown, hK2⟩; obtain ⟨g, rfl, y1, y2, y3⟩ := form_three (w' := w2) hown; replace hown := Lib.hid hown))
  go_ret
  exact ⟨rfl, (hK1.alloc _).and hK2⟩

/-- The canonical flags' properties, for every class. -/
theorem can_law (k n : Int) (p : Bool) (h : CanGood k p n (isCls k) (cls k)) :
    0 ≤ canF p n (isCls k) (cls k) ∧ canF p n (isCls k) (cls k) ≤ 255 ∧ fits (widthI (canF p n (isCls k) (cls k))) n = true ∧ (widthI (canF p n (isCls k) (cls k))).toNat + 2 = (if 255 < n then 4 else 3) ∧
      rightB (fbit (canF p n (isCls k) (cls k)) 7) (fbit (canF p n (isCls k) (cls k)) 6) (fbit (canF p n (isCls k) (cls k)) 5) (isCls k) (cls k) = true := by
  revert h
  refine by_cls (P := fun kn c => CanGood k p n kn c → 0 ≤ canF p n kn c ∧ canF p n kn c ≤ 255 ∧ fits (widthI (canF p n kn c)) n = true ∧ (widthI (canF p n kn c)).toNat + 2 = (if 255 < n then 4 else 3) ∧
      rightB (fbit (canF p n kn c) 7) (fbit (canF p n kn c) 6) (fbit (canF p n kn c) 5) kn c = true) k ?_ ?_ ?_ ?_
  all_goals
    rintro ⟨_, _, h1, h2, h3⟩
    unfold canF
    cases p <;> by_cases hn : 255 < n <;> simp only [hn, if_true, if_false, Bool.false_eq_true, Int.reduceAdd]
    all_goals first
      | exact absurd (h3 rfl rfl) (by decide)
      | (refine ⟨by decide, by decide, ?_, by decide, by decide⟩
         first
           | (rw [show widthI _ = 2 from by decide]; simp [fits]; omega)
           | (rw [show widthI _ = 1 from by decide]; simp [fits]; omega))

theorem formL_length (f t l : Int) : (formL f t l).length = (widthI f).toNat + 2 := by
  simp [formL, putL_length]

end Go.Proofs.Ythdipbabfilciaa
