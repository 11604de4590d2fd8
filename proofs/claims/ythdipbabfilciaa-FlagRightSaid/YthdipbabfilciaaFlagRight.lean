/- The walk of the law FlagRight: it returns true and makes only new blocks, for every head and every low byte. -/
import Derived.Test.YthdipbabfilciaaFlagE
import Derived.Test.YthdipbabfilciaaOpenHead
namespace Go.Proofs.Ythdipbabfilciaa
open Go.RowKit Go.Maps
set_option linter.unusedVariables false
set_option linter.unusedSimpArgs false

set_option maxRecDepth 100000 in
set_option maxHeartbeats 4000000 in
theorem flagRight_law (f k l : Int) (low : Int) (w : World) (wk : (Lit.int .i64 k).wf = true) (hlow : 0 ≤ low ∧ low ≤ 255) :
    Calls Try.prog 3 #[.agg #[.int .i64 f, .int .i64 k, .int .i64 l], .int .u8 low] w (Stay (.bool true) w) := by
  have HR := Lib.hid (fun f l w => right_any f k l wk w)
  have HRR := Lib.hid (fun w => rright_any f k w)
  have HC := Lib.hid (fun w => class_any k wk w)
  have HRC := Lib.hid (fun w => rclass_any k w)
  have HA := Lib.hid alive_any
  have hlw : IntKind.i64.wrap low = low := IntWalk.i64_in _ (by omega)
  have g7 := fbit_low f low 7 (by decide)
  have g6 := fbit_low f low 6 (by decide)
  have g5 := fbit_low f low 5 (by decide)
  obtain ⟨c, hc⟩ : ∃ c, cls k = c := ⟨_, rfl⟩
  obtain ⟨kn, hkn⟩ : ∃ kn, isCls k = kn := ⟨_, rfl⟩
  have hRlow : ∀ l w, Calls Try.prog 11 #[.agg #[.int .i64 (bits .xor .i64 f (bits .and .i64 low 31)), .int .i64 k, .int .i64 l]] w (Stay (.bool (rightB (fbit f 7) (fbit f 6) (fbit f 5) (isCls k) (cls k))) w) := fun l w => by
    have := HR.out (bits .xor .i64 f (bits .and .i64 low 31)) l w
    rwa [g7, g6, g5] at this
  have HR' := Lib.hid (fun l w => HR.out f l w)
  have HRl := Lib.hid hRlow
  clear hRlow HR g7 g6 g5
  rw [hc, hkn] at HR' HRl HRR HC HRC
  obtain ⟨R, hR⟩ : ∃ R, rightB (fbit f 7) (fbit f 6) (fbit f 5) kn c = R := ⟨_, rfl⟩
  rw [hR] at HR' HRl HRR
  obtain ⟨x1, x2, x3, x4, x5, x6, x7⟩ := (Bk.fresh w 23 #[.int .i64 f, .int .i64 k, .int .i64 l]).three
  have hb := Lib.hid (Bk.fresh w 23 #[.int .i64 f, .int .i64 k, .int .i64 l])
  have hk0 := Lib.hid ((Kp.refl NoB w).alloc (.cells #[.int .i64 f, .int .i64 k, .int .i64 l] 23))
  go_enter Try.func3, Try.ntmps3
  go_wp2_with (first
    | (go_at_call 7; refine (HRR.out _).mono ?_; rintro e w1 ⟨rfl, rfl⟩)
    | (go_at_call 9; refine (HRC.out _).mono ?_; rintro e w1 ⟨rfl, rfl⟩)
    | (go_at_call 8; refine (HC.out _).mono ?_; rintro e w2 ⟨rfl, hK2⟩; obtain ⟨y1, y2, y3, y4, y5, y6, y7⟩ := (hb.out.and hK2).three)
    | (go_at_call 10; refine (HA.out _).mono ?_; rintro e w3 ⟨rfl, hK3⟩; obtain ⟨z1, z2, z3, z4, z5, z6, z7⟩ := ((hb.out.and hK2).and hK3).three))
  refine (HR'.out _ _).mono ?_
  rintro e w4 ⟨rfl, hK4⟩
  obtain ⟨u1, u2, u3, u4, u5, u6, u7⟩ := (((hb.out.and hK2).and hK3).and hK4).three
  go_wp2_with fail
  refine (HRl.out _ _).mono ?_
  rintro e w5 ⟨rfl, hK5⟩
  go_wp2_with fail
  go_ret
  exact ⟨rfl, (((hk0.out.and hK2).and hK3).and hK4).and hK5⟩

theorem flagRight_row (z : Three) (low : Int) (w : World) (hz : z.Wf) (hl : 0 ≤ low ∧ low ≤ 255) :
    Calls Try.prog 3 #[z.val, .int .u8 low] w (Stay (.bool true) w) := flagRight_law z.a z.b z.c low w hz.2.1 hl

end Go.Proofs.Ythdipbabfilciaa
