/- The walk of the law FlagCanonical: it returns true and makes only new blocks, for every input. -/
import Derived.Test.YthdipbabfilciaaFlagE
import Derived.Test.YthdipbabfilciaaOpen
namespace Go.Proofs.Ythdipbabfilciaa
open Go.RowKit Go.Maps
set_option linter.unusedVariables false
set_option linter.unusedSimpArgs false

theorem wf_of {n : Int} (h : -9223372036854775808 ≤ n ∧ n ≤ 9223372036854775807) : (Lit.int .i64 n).wf = true := by
  simp [Lit.wf, IntKind.min, IntKind.max, IntKind.signed, IntKind.bits]
  omega

set_option maxRecDepth 100000 in
set_option maxHeartbeats 4000000 in
theorem can_row_bad (k : Int) (p : Bool) (n : Int) (w : World) (wk : (Lit.int .i64 k).wf = true) (h : CanBad k p n (isCls k) (cls k)) :
    Calls Try.prog 4 #[.int .i64 k, .bool p, .int .i64 n] w (Stay (.bool true) w) := by
  have HC := Lib.hid (fun w => canon_bad k p n wk w h)
  have HR := Lib.hid (fun w => rcanon_bad k p n wk w h)
  have HA := Lib.hid alive_any
  unfold head at HC HR
  go_enter Try.func4, Try.ntmps4
  go_wp2_with (first
    | (go_at_call 12; refine (HC.out _).mono ?_; rintro e w1 ⟨rfl, hK1⟩; obtain ⟨x1, x2, x3, x4, x5, x6, x7⟩ := (Bk.fresh w1 29 #[.int .i64 0, .int .i64 0, .int .i64 0]).three)
    | (go_at_call 13; refine (HR.out _).mono ?_; rintro e w2 ⟨rfl, hK2⟩; obtain ⟨y1, y2, y3, y4, y5, y6, y7⟩ := ((Bk.fresh w1 29 #[.int .i64 0, .int .i64 0, .int .i64 0]).and hK2).three; obtain ⟨z1, z2, z3, z4, z5, z6, z7⟩ := (Bk.fresh w2 23 #[.int .i64 0, .int .i64 0, .int .i64 0]).three; obtain ⟨u1, u2, u3, u4, u5, u6, u7⟩ := (((Bk.fresh w1 29 #[.int .i64 0, .int .i64 0, .int .i64 0]).and hK2).alloc (.cells #[.int .i64 0, .int .i64 0, .int .i64 0] 23)).three)
    | (go_at_call 10; refine (HA.out _).mono ?_; rintro e w3 ⟨rfl, hK3⟩))
  go_ret
  exact ⟨rfl, (((hK1.alloc _).and hK2).alloc _).and hK3⟩

set_option maxRecDepth 100000 in
set_option maxHeartbeats 4000000 in
theorem can_row_good (k : Int) (p : Bool) (n : Int) (w : World) (wk : (Lit.int .i64 k).wf = true) (h : CanGood k p n (isCls k) (cls k)) :
    Calls Try.prog 4 #[.int .i64 k, .bool p, .int .i64 n] w (Stay (.bool true) w) := by
  have HC := Lib.hid (fun w => canon_good k p n wk w h)
  have HR := Lib.hid (fun w => rcanon_good k p n wk w h)
  have HA := Lib.hid alive_any
  obtain ⟨f0, f1, hf, hw, hr⟩ := can_law k n p h
  have HG := Lib.hid (fun w => right_any (canF p n (isCls k) (cls k)) k n wk w)
  rw [hr] at HG
  have HB := Lib.hid (fun w => fbytes_good (canF p n (isCls k) (cls k)) k n w f0 f1 h.1 h.2.1 h.2.2.1 h.2.2.2.1 hf)
  have HS := Lib.hid (fun w => size_any n w)
  obtain ⟨S, hS⟩ : ∃ S : Int, (if 255 < n then (4 : Int) else 3) = S := ⟨_, rfl⟩
  have hL : ((formL (canF p n (isCls k) (cls k)) k n).length : Int) = S := by
    rw [formL_length, ← hS]
    by_cases hn : 255 < n
    · rw [if_pos hn] at hw ⊢; omega
    · rw [if_neg hn] at hw ⊢; omega
  rw [hS] at HS
  obtain ⟨F, hF⟩ : ∃ F, canF p n (isCls k) (cls k) = F := ⟨_, rfl⟩
  rw [hF] at HC HR HG HB hL
  clear f0 f1 hf hw hr hS hF h
  unfold head at HC HR
  go_enter Try.func4, Try.ntmps4
  go_wp2_with (first
    | (go_at_call 12; refine (HC.out _).mono ?_; rintro e w1 ⟨rfl, hK1⟩; obtain ⟨x1, x2, x3, x4, x5, x6, x7⟩ := (Bk.fresh w1 29 #[.int .i64 F, .int .i64 k, .int .i64 n]).three)
    | (go_at_call 13; refine (HR.out _).mono ?_; rintro e w2 ⟨rfl, hK2⟩; obtain ⟨y1, y2, y3, y4, y5, y6, y7⟩ := ((Bk.fresh w1 29 #[.int .i64 F, .int .i64 k, .int .i64 n]).and hK2).three; obtain ⟨z1, z2, z3, z4, z5, z6, z7⟩ := (Bk.fresh w2 23 #[.int .i64 F, .int .i64 k, .int .i64 n]).three; have hb := Lib.hid (((Bk.fresh w1 29 #[.int .i64 F, .int .i64 k, .int .i64 n]).and hK2).alloc (.cells #[.int .i64 F, .int .i64 k, .int .i64 n] 23)); obtain ⟨u1, u2, u3, u4, u5, u6, u7⟩ := hb.out.three)
    | (go_at_call 14; refine (HB.out _).mono ?_; rintro e w3 ⟨A, c, rfl, hown, hK3⟩; replace hown := Lib.hid hown)
    | (go_at_call 10; refine (HA.out _).mono ?_; rintro e w4 ⟨rfl, hK4⟩)
    | (go_at_call 15; refine (HS.out _).mono ?_; rintro e w5 ⟨rfl, rfl⟩; obtain ⟨t1, t2, t3, t4, t5, t6, t7⟩ := ((hb.out.and hK3).and hK4).three)
    | (go_at_call 11; refine (HG.out _).mono ?_; rintro e w6 ⟨rfl, hK6⟩))
  go_ret
  exact ⟨rfl, (((((hK1.alloc _).and hK2).alloc _).and hK3).and hK4).and hK6⟩

theorem can_row (k : Int) (p : Bool) (n : Int) (w : World) (wk : -9223372036854775808 ≤ k ∧ k ≤ 9223372036854775807) (wn : -9223372036854775808 ≤ n ∧ n ≤ 9223372036854775807) :
    Calls Try.prog 4 #[.int .i64 k, .bool p, .int .i64 n] w (Stay (.bool true) w) := by
  rcases can_cases k p n (isCls k) (cls k) with h | h
  · exact can_row_bad k p n w (wf_of wk) h
  · exact can_row_good k p n w (wf_of wk) h

end Go.Proofs.Ythdipbabfilciaa
