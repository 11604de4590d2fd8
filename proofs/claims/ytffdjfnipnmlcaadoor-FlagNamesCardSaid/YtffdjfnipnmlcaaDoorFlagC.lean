/- Canonical heads (package flag and its reference): contracts by walking the Go text. No condition but that the numbers are of their kinds. -/
import Derived.Test.YtffdjfnipnmlcaaDoorFlagA
namespace Go.Proofs.YtffdjfnipnmlcaaDoor
open Go.RowKit Go.Maps
set_option linter.unusedVariables false
set_option linter.unusedSimpArgs false

set_option maxRecDepth 100000 in
set_option maxHeartbeats 8000000 in
theorem canon_good (k : Int) (p : Bool) (n : Int) (wk : (Lit.int .i64 k).wf = true) (w : World) (h : CanGood k p n (isCls k) (cls k)) : Calls Tryd.prog 11 #[.int .i64 k, .bool p, .int .i64 n] w (Stay (.tuple #[head (canF p n (isCls k) (cls k)) k n, .bool true]) w) := by
  have HC := Lib.hid (fun w => class_any k wk w)
  revert HC h
  refine by_cls (P := fun kn c => CanGood k p n kn c → Hid (∀ w, Calls Tryd.prog 14 #[.int .i64 k] w (Stay (.tuple #[.int .i64 c, .bool kn]) w)) → Calls Tryd.prog 11 #[.int .i64 k, .bool p, .int .i64 n] w (Stay (.tuple #[head (canF p n kn c) k n, .bool true]) w)) k ?_ ?_ ?_ ?_
  all_goals
    intro h HC
    obtain ⟨h1, h2, h3, h4, h5⟩ := h
    cases p
    all_goals first | (exact absurd (h5 rfl rfl) (by decide)) | clear h5
    all_goals by_cases h6 : 255 < n
    all_goals
      unfold canF
      simp only [h6, if_true, if_false, Bool.false_eq_true, Int.reduceAdd]
      go_enter Tryd.func11, Tryd.ntmps11
      go_wp2_with (go_at_call 14; refine (HC.out _).mono ?_; rintro e w1 ⟨rfl, hK⟩; obtain ⟨x1, x2, x3, x4, x5, x6, x7⟩ := ((Bk.fresh w 32 #[.int .i64 0, .int .i64 0, .int .i64 0]).and hK).three)
      have hk0 := ((Kp.refl NoB w).alloc (.cells #[.int .i64 0, .int .i64 0, .int .i64 0] 32)).and hK
      refine bodyPost_ret (v := .tuple #[.agg #[.int .i64 _, .int .i64 k, .int .i64 n], .bool true]) (by simp [results, Tryd.results11, go_sem, *]; try rfl) rfl ⟨rfl, (by repeat (first | exact hk0 | refine Kp.setCell ?_ (fun hq => by simp at hq) _))⟩

end Go.Proofs.YtffdjfnipnmlcaaDoor
