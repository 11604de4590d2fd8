/- The reference's same, slices.Equal: lists of numbers compared. No condition but the bounds that arguments have. -/
import Derived.Test.YtkhonebedoemoaaDoorComB
import Derived.Test.YtkhonebedoemoaaDoorEqual
namespace Go.Proofs.YtkhonebedoemoaaDoor
open Go.RowKit
set_option linter.unusedVariables false
set_option linter.unusedSimpArgs false

theorem us_getC (xs : List Int) (j : Nat) (h : j < xs.length) : (us xs)[j]? = some (.int .u32 (xs.getD j 0)) := by
  simp [us, List.getD, List.getElem?_eq_getElem h]

set_option maxRecDepth 100000 in
set_option maxHeartbeats 1600000 in
theorem usame_any (A B : Option Addr) (c d : Nat) (xs ys : List Int) (w : World) (ha : Arr w A (us xs)) (hb : Arr w B (us ys)) (hn : xs.length ≤ 140737488355328) :
    Calls Tryd.prog 29 #[.slice A xs.length c, .slice B ys.length d] w (Stay (.bool (decide (xs = ys))) w) := by
  by_cases hl : xs.length = ys.length
  · have hne : ((xs.length : Int) != (ys.length : Int)) = false := by rw [hl]; simp
    have Hl := Lib.hid hl
    clear hl
    go_enter Tryd.func29, Tryd.ntmps29
    go_wp2
    go_loopw [5] (fun i wr => ∃ j n : Nat, j ≤ xs.length ∧ i = .int .i64 j ∧ wr = w.drewN n ∧ Hid (xs.take j = ys.take j)) (fun i _ => xs.length - (intOf i).toNat)
    case atStart => exact ⟨0, 0, Nat.zero_le _, rfl, rfl, rfl⟩
    case round =>
      obtain ⟨j, n, hj, rfl, rfl, ht⟩ := hrel
      by_cases hlt : j < xs.length
      · have hlt' : j < ys.length := by have := Hl.out; omega
        obtain ⟨ad, rfl, hca⟩ := ha.at (us_getC xs j hlt)
        obtain ⟨bd, rfl, hcb⟩ := hb.at (us_getC ys j hlt')
        obtain ⟨x, hx⟩ : ∃ x, xs.getD j 0 = x := ⟨_, rfl⟩
        obtain ⟨y, hy⟩ : ∃ y, ys.getD j 0 = y := ⟨_, rfl⟩
        rw [hx] at hca
        rw [hy] at hcb
        have HX := Lib.hid hx
        have HY := Lib.hid hy
        clear hx hy
        by_cases hxy : x = y
        · subst hxy
          go_wp2
          go_quiet (fail)
          go_wp2
          go_roundw
          case rel => exact ⟨j + 1, _, by omega, by go_num, rfl, take_eq_succ xs ys j hlt hlt' ht (HX.out.trans HY.out.symm)⟩
          case measure => simp [intOf]; omega
        · have hne' : (x != y) = true := by simp [hxy]
          have Hxy := Lib.hid hxy
          clear hxy
          go_wp2
          go_quiet (fail)
          go_wp2
          go_ret
          refine ⟨?_, by rw [World.drewN_drewN w n nq]; exact (Kp.refl NoB w).drewN _⟩
          have : decide (xs = ys) = false := by
            simp only [decide_eq_false_iff_not]
            rintro rfl
            exact Hxy.out (HX.out.symm.trans HY.out)
          rw [this]
          rfl
      · have hj : j = xs.length := by omega
        go_wp2
        go_ret
        refine ⟨?_, (Kp.refl NoB w).drewN _⟩
        have : decide (xs = ys) = true := by
          have h1 := ht.out
          have h2 := Hl.out
          rw [hj] at h1
          rw [List.take_length, h2, List.take_length] at h1
          simpa using h1
        rw [this]
        rfl
  · have hne : ((xs.length : Int) != (ys.length : Int)) = true := by simp; omega
    have hd : decide (xs = ys) = false := by
      simp only [decide_eq_false_iff_not]
      rintro rfl
      exact hl rfl
    rw [hd]
    obtain ⟨n, hnn⟩ : ∃ n, xs.length = n := ⟨_, rfl⟩
    obtain ⟨m, hmm⟩ : ∃ m, ys.length = m := ⟨_, rfl⟩
    rw [hnn, hmm] at hne ⊢
    clear hnn hmm hl ha hb hd
    go_enter Tryd.func29, Tryd.ntmps29
    go_wp2
    go_ret
    exact ⟨rfl, Kp.refl _ _⟩

set_option maxRecDepth 100000 in
set_option maxHeartbeats 1600000 in
theorem uequal_any (A B : Option Addr) (c d : Nat) (xs ys : List Int) (w : World) (ha : Arr w A (us xs)) (hb : Arr w B (us ys)) (hn : xs.length ≤ 140737488355328) :
    Calls Tryd.prog 16 #[.slice A xs.length c, .slice B ys.length d] w (Stay (.bool (decide (xs = ys))) w) := by
  by_cases hl : xs.length = ys.length
  · have hne : ((xs.length : Int) != (ys.length : Int)) = false := by rw [hl]; simp
    have Hl := Lib.hid hl
    clear hl
    go_enter Tryd.func16, Tryd.ntmps16
    go_wp2
    go_loopw [13] (fun i wr => ∃ j n : Nat, j ≤ xs.length ∧ i = .int .i64 j ∧ wr = w.drewN n ∧ Hid (xs.take j = ys.take j)) (fun i _ => xs.length - (intOf i).toNat)
    case atStart => exact ⟨0, 0, Nat.zero_le _, rfl, rfl, rfl⟩
    case round =>
      obtain ⟨j, n, hj, rfl, rfl, ht⟩ := hrel
      by_cases hlt : j < xs.length
      · have hlt' : j < ys.length := by have := Hl.out; omega
        obtain ⟨ad, rfl, hca⟩ := ha.at (us_getC xs j hlt)
        obtain ⟨bd, rfl, hcb⟩ := hb.at (us_getC ys j hlt')
        obtain ⟨x, hx⟩ : ∃ x, xs.getD j 0 = x := ⟨_, rfl⟩
        obtain ⟨y, hy⟩ : ∃ y, ys.getD j 0 = y := ⟨_, rfl⟩
        rw [hx] at hca
        rw [hy] at hcb
        have HX := Lib.hid hx
        have HY := Lib.hid hy
        clear hx hy
        by_cases hxy : x = y
        · subst hxy
          go_wp2
          go_quiet (fail)
          go_wp2
          go_roundw
          case rel => exact ⟨j + 1, _, by omega, by go_num, rfl, take_eq_succ xs ys j hlt hlt' ht (HX.out.trans HY.out.symm)⟩
          case measure => simp [intOf]; omega
        · have hne' : (x != y) = true := by simp [hxy]
          have Hxy := Lib.hid hxy
          clear hxy
          go_wp2
          go_quiet (fail)
          go_wp2
          go_ret
          refine ⟨?_, by rw [World.drewN_drewN w n nq]; exact (Kp.refl NoB w).drewN _⟩
          have : decide (xs = ys) = false := by
            simp only [decide_eq_false_iff_not]
            rintro rfl
            exact Hxy.out (HX.out.symm.trans HY.out)
          rw [this]
          rfl
      · have hj : j = xs.length := by omega
        go_wp2
        go_ret
        refine ⟨?_, (Kp.refl NoB w).drewN _⟩
        have : decide (xs = ys) = true := by
          have h1 := ht.out
          have h2 := Hl.out
          rw [hj] at h1
          rw [List.take_length, h2, List.take_length] at h1
          simpa using h1
        rw [this]
        rfl
  · have hne : ((xs.length : Int) != (ys.length : Int)) = true := by simp; omega
    have hd : decide (xs = ys) = false := by
      simp only [decide_eq_false_iff_not]
      rintro rfl
      exact hl rfl
    rw [hd]
    obtain ⟨n, hnn⟩ : ∃ n, xs.length = n := ⟨_, rfl⟩
    obtain ⟨m, hmm⟩ : ∃ m, ys.length = m := ⟨_, rfl⟩
    rw [hnn, hmm] at hne ⊢
    clear hnn hmm hl ha hb hd
    go_enter Tryd.func16, Tryd.ntmps16
    go_wp2
    go_ret
    exact ⟨rfl, Kp.refl _ _⟩

end Go.Proofs.YtkhonebedoemoaaDoor
