/- Chapter 7: the reference's width, Has, Valid. No condition but the bounds that arguments have. -/
import Derived.Test.YthgcfoednhdbcaaDoorBasLd
namespace Go.Proofs.YthgcfoednhdbcaaDoor
open Go.RowKit
set_option linter.unusedVariables false
set_option linter.unusedSimpArgs false

/-- The reference's width. -/
def wdR (k : Int) : Int := if k = 1 then 1 else if k = 3 ∨ k = 4 ∨ k = 5 ∨ k = 9 then 4 else if k = 6 then 0 else -1
theorem wdR_none {k : Int} (h : wdO k = none) : wdR k = -1 := by
  unfold wdO at h
  unfold wdR
  repeat' split at h
  all_goals first | (cases h; done) | simp_all
theorem wdR_some {k a m c : Int} (h : wdO k = some (a, m, c)) : wdR k = a := by
  unfold wdO at h
  unfold wdR
  repeat' split at h
  all_goals first | (cases h; done) | (cases h; simp_all; done) | (cases h; rfl)

set_option maxRecDepth 100000 in
theorem rwidth_any (k : Int) (w : World) : Calls Tryd.prog 34 #[.int .i64 k] w fun e w' => e = .returned (.int .i64 (wdR k)) ∧ w' = w := by
  by_cases h1 : k = 1
  · subst h1
    go_enter Tryd.func34, Tryd.ntmps34
    go_wp2
    go_ret
    exact ⟨rfl, rfl⟩
  by_cases h3 : k = 3
  · subst h3
    go_enter Tryd.func34, Tryd.ntmps34
    go_wp2
    go_ret
    exact ⟨rfl, rfl⟩
  by_cases h4 : k = 4
  · subst h4
    go_enter Tryd.func34, Tryd.ntmps34
    go_wp2
    go_ret
    exact ⟨rfl, rfl⟩
  by_cases h5 : k = 5
  · subst h5
    go_enter Tryd.func34, Tryd.ntmps34
    go_wp2
    go_ret
    exact ⟨rfl, rfl⟩
  by_cases h9 : k = 9
  · subst h9
    go_enter Tryd.func34, Tryd.ntmps34
    go_wp2
    go_ret
    exact ⟨rfl, rfl⟩
  by_cases h6 : k = 6
  · subst h6
    go_enter Tryd.func34, Tryd.ntmps34
    go_wp2
    go_ret
    exact ⟨rfl, rfl⟩
  have e : wdR k = -1 := by simp [wdR, h1, h3, h4, h5, h6, h9]
  rw [e]
  go_enter Tryd.func34, Tryd.ntmps34
  go_wp2
  go_ret
  exact ⟨rfl, rfl⟩

theorem hasB_wd (k : Int) : hasB k = decide (0 ≤ wdR k) := by
  unfold hasB
  cases h : wdO k with
  | none => rw [wdR_none h]; rfl
  | some r =>
    obtain ⟨a, m, c⟩ := r
    rw [wdR_some h]
    rcases wdO_kinds h with ⟨_, rfl, _⟩ | ⟨_, rfl, _⟩ | ⟨_, rfl, _⟩ <;> rfl

theorem rhas_any (k : Int) (w : World) : Calls Tryd.prog 25 #[.int .i64 k] w fun e w' => e = .returned (.bool (hasB k)) ∧ w' = w := by
  rw [hasB_wd]
  have H := Lib.hid (rwidth_any k w)
  obtain ⟨r, hr⟩ : ∃ r, wdR k = r := ⟨_, rfl⟩
  rw [hr] at H ⊢
  go_enter Tryd.func25, Tryd.ntmps25
  go_wp2_with (go_at_call 34; refine Calls.mono H.out ?_; rintro e w1 ⟨rfl, rfl⟩)
  go_ret
  exact ⟨rfl, rfl⟩

theorem validA_eq (z : AtI) (h0 : 0 ≤ z.n ∧ z.n < 4294967296) : validA z = (hasB z.t && z.bare && decide (z.m = 0) && (decide (z.t ≠ 1) || decide (z.n ≤ 2)) && (decide (z.t ≠ 6) || decide (z.n = 0))) := by
  unfold validA hasB plainB
  cases h : wdO z.t with
  | none => simp
  | some r =>
    obtain ⟨a, m, c⟩ := r
    rw [Bool.eq_iff_iff]
    simp only [Bool.and_eq_true, decide_eq_true_eq, Bool.or_eq_true, Option.isSome_some, List.length_singleton, List.getD_cons_zero, List.getD_cons_succ, List.getD_nil, ne_eq, true_and]
    rcases wdO_kinds h with ⟨h1, rfl, rfl, rfl⟩ | ⟨h1, rfl, rfl, rfl⟩ | ⟨h1, rfl, rfl, rfl⟩ <;> (cases z.bare <;> simp <;> omega)

set_option maxRecDepth 100000 in
set_option maxHeartbeats 3200000 in
theorem rvalid_any (z : AtI) (h0 : 0 ≤ z.n ∧ z.n < 4294967296) (w : World) : Calls Tryd.prog 14 #[z.val] w (Stay (.bool (validA z)) w) := by
  have e := validA_eq z h0
  have HB := Lib.hid (fun W => bare_any z W)
  have HH := Lib.hid (fun W => rhas_any z.t W)
  obtain ⟨b, hb⟩ : ∃ b, z.bare = b := ⟨_, rfl⟩
  obtain ⟨h, hh⟩ : ∃ h, hasB z.t = h := ⟨_, rfl⟩
  rw [hb] at HB e
  rw [hh] at HH e
  rw [e]
  clear e hb hh
  unfold AtI.val AtI.cs at *
  have fin : ∀ (V W : Bool) (w' : World), V = W → Kp NoB w w' → Stay (.bool V) w (.returned (.bool W)) w' := fun V W w' e k => ⟨by rw [e], k⟩
  go_enter Tryd.func14, Tryd.ntmps14
  go_wp2_with (first
    | (go_at_call 25; refine Calls.mono (HH.out _) ?_; rintro e w1 ⟨rfl, rfl⟩)
    | (go_at_call 27; refine Calls.mono (HB.out _) ?_; rintro e w2 ⟨rfl, hK⟩; obtain ⟨hk1', hZ'⟩ := fin_at (z := z) hK; have hk1 := Lib.hid hk1'; obtain ⟨x0, x1, x2, x3, x4, x5, x6, x7, x8⟩ := hZ'.attr; clear hK hk1' hZ'))
  all_goals go_ret
  all_goals first
    | refine fin _ _ _ ?_ hk1.out
    | refine fin _ _ _ ?_ ((Kp.refl _ _).alloc _)
  all_goals clear HB HH fin
  all_goals try clear x0 x1 x2 x3 x4 x5 x6 x7 x8 hk1
  all_goals first | (simp_all; done) | (rw [Bool.eq_iff_iff]; simp_all; done)

end Go.Proofs.YthgcfoednhdbcaaDoor
