/- Canonical heads (the reference): contracts by walking the Go text. No condition but that the numbers are of their kinds. -/
import Derived.Test.YthdipbabfilciaaFlagA
namespace Go.Proofs.Ythdipbabfilciaa
open Go.RowKit Go.Maps
set_option linter.unusedVariables false
set_option linter.unusedSimpArgs false

set_option maxRecDepth 100000 in
set_option maxHeartbeats 8000000 in
theorem rcanon_bad (k : Int) (p : Bool) (n : Int) (wk : (Lit.int .i64 k).wf = true) (w : World) (h : CanBad k p n (isCls k) (cls k)) : Calls Try.prog 13 #[.int .i64 k, .bool p, .int .i64 n] w (Stay (.tuple #[head 0 0 0, .bool false]) w) := by
  have HC := Lib.hid (fun w => rclass_stay k w)
  revert HC h
  refine by_cls (P := fun kn c => CanBad k p n kn c → Hid (∀ w, Calls Try.prog 9 #[.int .i64 k] w (Stay (.tuple #[.int .i64 c, .bool kn]) w)) → Calls Try.prog 13 #[.int .i64 k, .bool p, .int .i64 n] w (Stay (.tuple #[head 0 0 0, .bool false]) w)) k ?_ ?_ ?_ ?_
  all_goals
    intro h HC
    rcases h with h | ⟨h1, h⟩ | ⟨h1, h2, h⟩ | ⟨h1, h2, h3, h⟩ | ⟨h1, h2, h3, h4, rfl, h5, h6⟩
    all_goals first | (exact absurd h6 (by decide)) | (exact absurd h5 (by decide)) | skip
    all_goals
      go_enter Try.func13, Try.ntmps13
      go_wp2_with (go_at_call 9; refine (HC.out _).mono ?_; rintro e w1 ⟨rfl, hK⟩; obtain ⟨x1, x2, x3, x4, x5, x6, x7⟩ := ((Bk.fresh w 23 #[.int .i64 0, .int .i64 0, .int .i64 0]).and hK).three)
      have hk0 := ((Kp.refl NoB w).alloc (.cells #[.int .i64 0, .int .i64 0, .int .i64 0] 23)).and hK
      refine bodyPost_ret (v := .tuple #[.agg #[.int .i64 0, .int .i64 0, .int .i64 0], .bool false]) (by simp [results, Try.results13, go_sem, *]) rfl ⟨rfl, (by repeat (first | exact hk0 | refine Kp.setCell ?_ (fun hq => by simp at hq) _))⟩

set_option maxRecDepth 100000 in
set_option maxHeartbeats 8000000 in
theorem rcanon_good (k : Int) (p : Bool) (n : Int) (wk : (Lit.int .i64 k).wf = true) (w : World) (h : CanGood k p n (isCls k) (cls k)) : Calls Try.prog 13 #[.int .i64 k, .bool p, .int .i64 n] w (Stay (.tuple #[head (canF p n (isCls k) (cls k)) k n, .bool true]) w) := by
  have HC := Lib.hid (fun w => rclass_stay k w)
  revert HC h
  refine by_cls (P := fun kn c => CanGood k p n kn c → Hid (∀ w, Calls Try.prog 9 #[.int .i64 k] w (Stay (.tuple #[.int .i64 c, .bool kn]) w)) → Calls Try.prog 13 #[.int .i64 k, .bool p, .int .i64 n] w (Stay (.tuple #[head (canF p n kn c) k n, .bool true]) w)) k ?_ ?_ ?_ ?_
  all_goals
    intro h HC
    obtain ⟨h1, h2, h3, h4, h5⟩ := h
    cases p
    all_goals first | (exact absurd (h5 rfl rfl) (by decide)) | clear h5
    all_goals by_cases h6 : 255 < n
    all_goals
      unfold canF
      simp only [h6, if_true, if_false, Bool.false_eq_true, Int.reduceAdd]
      go_enter Try.func13, Try.ntmps13
      go_wp2_with (go_at_call 9; refine (HC.out _).mono ?_; rintro e w1 ⟨rfl, hK⟩; obtain ⟨x1, x2, x3, x4, x5, x6, x7⟩ := ((Bk.fresh w 23 #[.int .i64 0, .int .i64 0, .int .i64 0]).and hK).three)
      have hk0 := ((Kp.refl NoB w).alloc (.cells #[.int .i64 0, .int .i64 0, .int .i64 0] 23)).and hK
      refine bodyPost_ret (v := .tuple #[.agg #[.int .i64 _, .int .i64 k, .int .i64 n], .bool true]) (by simp [results, Try.results13, go_sem, *]; try rfl) rfl ⟨rfl, (by repeat (first | exact hk0 | refine Kp.setCell ?_ (fun hq => by simp at hq) _))⟩

end Go.Proofs.Ythdipbabfilciaa
