/- NOTIFICATIONs: values, Valid of both sides: contracts. No condition. -/
import Derived.Test.YtlklhcgacdjkiaaDoorMem
import Derived.Test.YtlklhcgacdjkiaaDoorPlain
import Derived.Test.YtlklhcgacdjkiaaDoorProg
import Derived.KernelRfl
import Derived.Deep.QuietTactic
import Derived.BigQuiet
import Derived.WalkSpells
import Derived.WalkLawsBesides
namespace Go.Proofs.YtlklhcgacdjkiaaDoor
open Go.RowKit
set_option linter.unusedVariables false
set_option linter.unusedSimpArgs false

/-- A NOTIFICATION. -/
structure NtI where
  c : Int
  s : Int
  d : List Int
def NtI.val (x : NtI) (A : Option Addr) (m : Nat) : Value := .agg #[.int .i64 x.c, .int .i64 x.s, .slice A x.d.length m]
/-- Is it valid? -/
def validN (c s : Int) (n : Nat) : Bool := decide (0 ≤ c ∧ c ≤ 255 ∧ 0 ≤ s ∧ s ≤ 255 ∧ n ≤ 65514)

theorem ret_bool {a b : Bool} (h : a = b) : Ending.returned (.bool a) = Ending.returned (.bool b) := by rw [h]

set_option maxHeartbeats 1000000 in
theorem nvalid_any (c s : Int) (A : Option Addr) (n m : Nat) (w : World) : Calls Tryd.prog 16 #[.agg #[.int .i64 c, .int .i64 s, .slice A n m]] w (Stay (.bool (validN c s n)) w) := by
  by_cases h1 : c ≤ s
  all_goals
    go_enter Tryd.func16, Tryd.ntmps16
    go_wp2
    all_goals
      go_ret
      exact ⟨ret_bool (by rw [Bool.eq_iff_iff]; simp only [validN, decide_eq_true_eq, Bool.false_eq_true, Bool.true_eq, false_iff, true_iff]; omega), (Kp.refl _ _).alloc _⟩

theorem bsized_any (c : Int) (w : World) : Calls Tryd.prog 41 #[.int .i64 c] w fun e w' => e = .returned (.bool (decide (0 ≤ c ∧ c ≤ 255))) ∧ w = w' := by
  rcases Int.lt_or_le c 0 with h1 | h1
  · have hd : decide (0 ≤ c ∧ c ≤ 255) = false := by simp; omega
    rw [hd]
    clear hd
    go_enter Tryd.func41, Tryd.ntmps41
    go_wp2
    go_ret
    exact ⟨rfl, rfl⟩
  · go_enter Tryd.func41, Tryd.ntmps41
    go_wp2
    go_ret
    exact ⟨ret_bool (by rw [Bool.eq_iff_iff]; simp only [decide_eq_true_eq]; omega), rfl⟩

set_option maxHeartbeats 1000000 in
theorem rnvalid_any (c s : Int) (A : Option Addr) (n m : Nat) (w : World) : Calls Tryd.prog 29 #[.agg #[.int .i64 c, .int .i64 s, .slice A n m]] w (Stay (.bool (validN c s n)) w) := by
  have H1 := Lib.hid (bsized_any c)
  have H2 := Lib.hid (bsized_any s)
  by_cases h1 : 0 ≤ c ∧ c ≤ 255
  · have e1 : decide (0 ≤ c ∧ c ≤ 255) = true := by simpa using h1
    rw [e1] at H1
    by_cases h2 : 0 ≤ s ∧ s ≤ 255
    · have e2 : decide (0 ≤ s ∧ s ≤ 255) = true := by simpa using h2
      rw [e2] at H2
      have HV : Hid (decide ((n : Int) ≤ 65514) = validN c s n) := Lib.hid (by rw [Bool.eq_iff_iff]; simp only [validN, decide_eq_true_eq]; omega)
      clear h1 h2 e1 e2
      go_enter Tryd.func29, Tryd.ntmps29
      go_wp2_with fail
      refine (H1.out _).mono ?_
      rintro e w' ⟨rfl, rfl⟩
      go_wp2_with fail
      refine (H2.out _).mono ?_
      rintro e w' ⟨rfl, rfl⟩
      go_wp2
      go_ret
      exact ⟨ret_bool HV.out, (Kp.refl _ _).alloc _⟩
    · have e2 : decide (0 ≤ s ∧ s ≤ 255) = false := by simpa using h2
      rw [e2] at H2
      have HV : Hid (false = validN c s n) := Lib.hid (by rw [Bool.eq_iff_iff]; simp only [validN, decide_eq_true_eq, Bool.false_eq_true, false_iff]; omega)
      clear h1 h2 e1 e2
      go_enter Tryd.func29, Tryd.ntmps29
      go_wp2_with fail
      refine (H1.out _).mono ?_
      rintro e w' ⟨rfl, rfl⟩
      go_wp2_with fail
      refine (H2.out _).mono ?_
      rintro e w' ⟨rfl, rfl⟩
      go_wp2
      go_ret
      exact ⟨ret_bool HV.out, (Kp.refl _ _).alloc _⟩
  · have e1 : decide (0 ≤ c ∧ c ≤ 255) = false := by simpa using h1
    rw [e1] at H1
    have HV : Hid (false = validN c s n) := Lib.hid (by rw [Bool.eq_iff_iff]; simp only [validN, decide_eq_true_eq, Bool.false_eq_true, false_iff]; omega)
    clear h1 e1
    go_enter Tryd.func29, Tryd.ntmps29
    go_wp2_with fail
    refine (H1.out _).mono ?_
    rintro e w' ⟨rfl, rfl⟩
    go_wp2
    go_ret
    exact ⟨ret_bool HV.out, (Kp.refl _ _).alloc _⟩

end Go.Proofs.YtlklhcgacdjkiaaDoor
