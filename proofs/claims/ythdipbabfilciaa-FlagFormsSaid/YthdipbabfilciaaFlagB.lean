/- Package flag's Right and width: contracts by walking the Go text. No condition but that the numbers are of their kinds. -/
import Derived.Test.YthdipbabfilciaaFlagA
namespace Go.Proofs.Ythdipbabfilciaa
open Go.RowKit Go.Maps
set_option linter.unusedVariables false
set_option linter.unusedSimpArgs false

set_option maxHeartbeats 4000000 in
theorem right_any (f k l : Int) (wk : (Lit.int .i64 k).wf = true) (w : World) : Calls Try.prog 11 #[.agg #[.int .i64 f, .int .i64 k, .int .i64 l]] w (Stay (.bool (rightB (fbit f 7) (fbit f 6) (fbit f 5) (isCls k) (cls k))) w) := by
  have HC := Lib.hid (fun w => class_any k wk w)
  have e7 := and_128 f
  have e6 := and_192 f
  have e5 := and_32 f
  revert e7 e6 e5 HC
  refine by_bits (P := fun b7 b6 b5 kn c => Hid (∀ w, Calls Try.prog 8 #[.int .i64 k] w (Stay (.tuple #[.int .i64 c, .bool kn]) w)) → bits .and .i64 f 128 = (if b7 then 128 else 0) → bits .and .i64 f 192 = (if b7 then 128 else 0) + (if b6 then 64 else 0) → bits .and .i64 f 32 = (if b5 then 32 else 0) → Calls Try.prog 11 #[.agg #[.int .i64 f, .int .i64 k, .int .i64 l]] w (Stay (.bool (rightB b7 b6 b5 kn c)) w)) k ?_ _ _ _
  intro b7 b6 b5
  refine ⟨⟨?_, ?_⟩, ?_, ?_⟩
  all_goals
    intro HC e7 e6 e5
    cases b7 <;> cases b6 <;> cases b5
    all_goals
      simp only [Bool.false_eq_true, if_false, if_true, Int.reduceAdd] at e7 e6 e5
      go_enter Try.func11, Try.ntmps11
      go_wp2_with (go_at_call 8; refine (HC.out _).mono ?_; rintro e w1 ⟨rfl, hK⟩; obtain ⟨x1, x2⟩ : w1.cell? ⟨w.heap.size, 0, none⟩ = some (.int .i64 f) ∧ w.heap.size < w1.heap.size := ⟨((Bk.fresh w _ #[.int .i64 f, .int .i64 k, .int .i64 l]).and hK).cell 0, ((Bk.fresh w _ #[.int .i64 f, .int .i64 k, .int .i64 l]).and hK).lt⟩)
      go_ret
      exact ⟨rfl, ((Kp.refl _ _).alloc _).and hK⟩

/-- How many bytes the length has. -/
def widthI (f : Int) : Int := if fbit f 4 then 2 else 1

theorem width_any (f : Int) (w : World) : Calls Try.prog 26 #[.int .i64 f] w fun e w' => e = .returned (.int .i64 (widthI f)) ∧ w = w' := by
  have e4 := and_16 f
  unfold widthI
  revert e4
  cases fbit f 4
  all_goals
    intro e4
    simp only [Bool.false_eq_true, if_false, if_true] at e4
    go_enter Try.func26, Try.ntmps26
    go_wp2
    go_ret
    exact ⟨rfl, rfl⟩

end Go.Proofs.Ythdipbabfilciaa
