/- The walk of the law OctetPuts: it returns true and makes only new blocks, for every width and every number. -/
import Derived.Test.YtlgicacpfajmgaaOctE
namespace Go.Proofs.Ytlgicacpfajmgaa
open Go.RowKit
set_option linter.unusedVariables false
set_option linter.unusedSimpArgs false

theorem numB_putR (k x : Int) : numB k (putR k x) = fits k x := by
  unfold putR
  by_cases h : fits k x = true
  · rw [if_pos h, h]
    simp only [fits, decide_eq_true_eq] at h
    simp [numB, putL_length]
    omega
  · rw [if_neg h]
    have hf : fits k x = false := by simpa using h
    rw [hf]
    simp [numB]
    omega
theorem numV_putR (k x : Int) (h0 : 0 ≤ x) (h : fits k x = true) : numV k (putR k x) = x := by
  unfold numV
  rw [numB_putR, h, if_pos rfl]
  unfold putR
  rw [if_pos h]
  simp only [fits, decide_eq_true_eq] at h
  rw [List.take_of_length_le (by rw [putL_length]; omega)]
  exact big_putL _ _ h0 h.2.2

set_option maxHeartbeats 1000000 in
theorem puts_walk (k x : Int) (h0 : 0 ≤ x) (h1 : x < 4294967296) (w : World) :
    Calls Try.prog 3 #[.int .i64 k, .int .u32 x] w (Stay (.bool true) w) := by
  obtain ⟨L, hL⟩ : ∃ L, putR k x = L := ⟨_, rfl⟩
  have hlen := putR_length k x
  have hB := putR_isB k x
  have hnb := numB_putR k x
  have hp := fun w => put_any k x w h0 h1
  have hq := fun w => rput_any k x w h0 h1
  have hnv := numV_putR k x h0
  unfold PutAny at hp hq
  rw [hL] at hlen hB hnb hnv
  simp only [hL] at hp hq
  have HP := Lib.hid hp
  have HQ := Lib.hid hq
  clear hp hq hL
  by_cases hf : fits k x = true
  all_goals
    first | rw [hf] at hnb | (replace hf : fits k x = false := by simpa using hf); rw [hf] at hnb
    first | replace hnv := hnv hf | clear hnv
    go_enter Try.func3, Try.ntmps3
    go_wp2_with (first
      | (go_at_call 8; refine (HP.out _).mono ?_; rintro e w1 ⟨A1, c1, rfl, hown1, hK1⟩)
      | (go_at_call 9; refine (HQ.out _).mono ?_; rintro e w2 ⟨A2, c2, rfl, hown2, hK2⟩)
      | (go_at_call 10; refine (new_any _ _ L _ (by omega) ((Arr.of_own hown1).and hK2) hB).mono ?_; rintro e w3 ⟨q, r, rfl, hr, _, _, hR, hK3⟩)
      | (go_at_call 11; refine (number_any _ q r _ 0 k hR).mono ?_; rintro e w4 ⟨rfl, hR4, hK4⟩)
      | (go_at_call 12; refine (alive_any _).mono ?_; rintro e w5 ⟨rfl, hK5⟩)
      | (go_at_call 13; refine (equal_stay A1 A2 c1 c2 L L _ (((Arr.of_own hown1).and hK2).and ((hK3.new hK4 hr).and hK5)) ((Arr.of_own hown2).and ((hK3.new hK4 hr).and hK5)) (by omega)).mono ?_; rintro e w6 ⟨rfl, hK6⟩))
    go_ret
    exact ⟨by simp [*], (((hK1.and hK2).and (hK3.new hK4 hr)).and hK5).and hK6⟩

theorem puts_law (k x : Int) (w : World) (bk : -9223372036854775808 ≤ k ∧ k ≤ 9223372036854775807) (bx : 0 ≤ x ∧ x ≤ 4294967295) :
    Calls Try.prog 3 #[.int .i64 k, .int .u32 x] w fun e w' => e = .returned (.bool true) ∧ Kp NoB w w' := puts_walk k x bx.1 (by omega) w

end Go.Proofs.Ytlgicacpfajmgaa
