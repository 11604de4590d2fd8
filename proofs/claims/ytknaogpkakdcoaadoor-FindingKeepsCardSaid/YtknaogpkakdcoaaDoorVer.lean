/- Verdicts: Proper of package finding and of its reference: contracts. No condition. -/
import Derived.Test.YtknaogpkakdcoaaDoorMem
import Derived.Test.YtknaogpkakdcoaaDoorPlain
import Derived.Test.YtknaogpkakdcoaaDoorProg
import Derived.KernelRfl
import Derived.Deep.QuietTactic
import Derived.BigQuiet
import Derived.WalkSpells
import Derived.WalkLawsBesides
namespace Go.Proofs.YtknaogpkakdcoaaDoor
open Go.RowKit
set_option linter.unusedVariables false
set_option linter.unusedSimpArgs false

/-- Is a verdict proper? (kind, code, sub, how many bytes of data, offset) -/
def properV (k c s : Int) (n : Nat) (a : Int) : Bool :=
  decide ((k = 0 ∧ c = 0 ∧ n = 0 ∧ s = 0 ∧ a = 0) ∨ ((k = 1 ∨ k = 2) ∧ c = 0 ∧ n = 0 ∧ s = 0 ∧ 0 ≤ a) ∨ (k = 3 ∧ c = 0 ∧ n = 0 ∧ 1 ≤ s ∧ s ≤ 2 ∧ 0 ≤ a) ∨ (k = 4 ∧ 1 ≤ c ∧ c ≤ 6 ∧ 0 ≤ s ∧ s ≤ 255 ∧ 0 ≤ a))

theorem vret {a b : Bool} (h : a = b) : Ending.returned (.bool a) = Ending.returned (.bool b) := by rw [h]

theorem between_any (l n h : Int) (w : World) : Calls Tryd.prog 28 #[.int .i64 l, .int .i64 n, .int .i64 h] w fun e w' => e = .returned (.bool (decide (l ≤ n ∧ n ≤ h))) ∧ w = w' := by
  rcases Int.lt_or_le n l with h1 | h1
  · have hd : decide (l ≤ n ∧ n ≤ h) = false := by simp; omega
    rw [hd]
    clear hd
    go_enter Tryd.func28, Tryd.ntmps28
    go_wp2
    go_ret
    exact ⟨rfl, rfl⟩
  · go_enter Tryd.func28, Tryd.ntmps28
    go_wp2
    go_ret
    exact ⟨vret (by rw [Bool.eq_iff_iff]; simp only [decide_eq_true_eq]; omega), rfl⟩

/-- The value of a verdict. -/
def verV (k c s : Int) (A : Option Addr) (n m : Nat) (a : Int) : Value := .agg #[.int .i64 k, .int .i64 c, .int .i64 s, .slice A n m, .int .i64 a]

set_option maxRecDepth 100000 in
set_option maxHeartbeats 8000000 in
theorem fproper_any (k c s : Int) (A : Option Addr) (n m : Nat) (a : Int) (w : World) : Calls Tryd.prog 9 #[.agg #[.int .i64 k, .int .i64 c, .int .i64 s, .slice A n m, .int .i64 a]] w (Stay (.bool (properV k c s n a)) w) := by
  have H := Lib.hid between_any
  by_cases hk : k = 0 ∨ k = 1 ∨ k = 2 ∨ k = 3 ∨ k = 4
  · rcases hk with rfl | rfl | rfl | rfl | rfl
    all_goals
      by_cases hc : c = 0
      · subst hc
        by_cases hn : n = 0
        all_goals
          try subst hn
          go_enter Tryd.func9, Tryd.ntmps9
          go_wp2_with (go_at_call 28; refine (H.out _ _ _ _).mono ?_; rintro e w' ⟨rfl, rfl⟩)
          all_goals
            go_ret
            exact ⟨vret (by rw [Bool.eq_iff_iff]; simp only [properV, decide_eq_true_eq, beq_iff_eq, Bool.false_eq_true, false_iff, true_iff, true_and, and_true, true_or, or_true] <;> omega), (Kp.refl _ _).alloc _⟩
      · go_enter Tryd.func9, Tryd.ntmps9
        go_wp2_with (go_at_call 28; refine (H.out _ _ _ _).mono ?_; rintro e w' ⟨rfl, rfl⟩)
        all_goals
          go_ret
          exact ⟨vret (by rw [Bool.eq_iff_iff]; simp only [properV, decide_eq_true_eq, beq_iff_eq, Bool.false_eq_true, false_iff, true_iff, true_and, and_true, true_or, or_true] <;> omega), (Kp.refl _ _).alloc _⟩
  · have e0 : (k == 0) = false := by simp; omega
    have e1 : (k == 1) = false := by simp; omega
    have e2 : (k == 2) = false := by simp; omega
    have e3 : (k == 3) = false := by simp; omega
    have e4 : (k == 4) = false := by simp; omega
    have HV : Hid (properV k c s n a = false) := Lib.hid (by simp only [properV, decide_eq_false_iff_not]; omega)
    clear hk
    go_enter Tryd.func9, Tryd.ntmps9
    go_wp2
    all_goals
      go_ret
      exact ⟨by rw [HV.out]; rfl, (Kp.refl _ _).alloc _⟩

set_option maxRecDepth 100000 in
set_option maxHeartbeats 8000000 in
theorem rproper_any (k c s : Int) (A : Option Addr) (n m : Nat) (a : Int) (w : World) : Calls Tryd.prog 10 #[.agg #[.int .i64 k, .int .i64 c, .int .i64 s, .slice A n m, .int .i64 a]] w (Stay (.bool (properV k c s n a)) w) := by
  have H := Lib.hid between_any
  by_cases hk : k = 0 ∨ k = 1 ∨ k = 2 ∨ k = 3 ∨ k = 4
  · rcases hk with rfl | rfl | rfl | rfl | rfl
    all_goals
      by_cases hc : c = 0
      · subst hc
        by_cases hn : n = 0
        all_goals
          try subst hn
          go_enter Tryd.func10, Tryd.ntmps10
          go_wp2_with (go_at_call 28; refine (H.out _ _ _ _).mono ?_; rintro e w' ⟨rfl, rfl⟩)
          all_goals
            go_ret
            exact ⟨vret (by rw [Bool.eq_iff_iff]; simp only [properV, decide_eq_true_eq, beq_iff_eq, Bool.false_eq_true, false_iff, true_iff, true_and, and_true, true_or, or_true] <;> omega), (Kp.refl _ _).alloc _⟩
      · go_enter Tryd.func10, Tryd.ntmps10
        go_wp2_with (go_at_call 28; refine (H.out _ _ _ _).mono ?_; rintro e w' ⟨rfl, rfl⟩)
        all_goals
          go_ret
          exact ⟨vret (by rw [Bool.eq_iff_iff]; simp only [properV, decide_eq_true_eq, beq_iff_eq, Bool.false_eq_true, false_iff, true_iff, true_and, and_true, true_or, or_true] <;> omega), (Kp.refl _ _).alloc _⟩
  · have e0 : (k == 0) = false := by simp; omega
    have e1 : (k == 1) = false := by simp; omega
    have e2 : (k == 2) = false := by simp; omega
    have e3 : (k == 3) = false := by simp; omega
    have e4 : (k == 4) = false := by simp; omega
    have HV : Hid (properV k c s n a = false) := Lib.hid (by simp only [properV, decide_eq_false_iff_not]; omega)
    clear hk
    go_enter Tryd.func10, Tryd.ntmps10
    go_wp2
    all_goals
      go_ret
      exact ⟨by rw [HV.out]; rfl, (Kp.refl _ _).alloc _⟩

end Go.Proofs.YtknaogpkakdcoaaDoor
