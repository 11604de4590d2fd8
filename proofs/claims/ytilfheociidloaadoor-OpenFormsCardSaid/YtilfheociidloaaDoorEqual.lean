/- slices.Equal of bytes: its contract. -/
import Derived.Test.YtilfheociidloaaDoorMem
import Derived.Test.YtilfheociidloaaDoorPlain
import Derived.Test.YtilfheociidloaaDoorProg
import Derived.KernelRfl
import Derived.Deep.QuietTactic
import Derived.BigQuiet
import Derived.WalkSpells
namespace Go.Proofs.YtilfheociidloaaDoor
open Go.RowKit
set_option linter.unusedVariables false
set_option linter.unusedSimpArgs false

/-- What two lists of one length have in common in front. -/
theorem take_eq_succ (xs ys : List Int) (j : Nat) (hx : j < xs.length) (hy : j < ys.length) (h : xs.take j = ys.take j) (he : xs.getD j 0 = ys.getD j 0) : xs.take (j + 1) = ys.take (j + 1) := by
  rw [take_snoc xs j hx, take_snoc ys j hy, h, he]

set_option maxHeartbeats 1000000 in
theorem equal_any (A B : Option Addr) (c d : Nat) (xs ys : List Int) (w : World) (ha : Arr w A (bs xs)) (hb : Arr w B (bs ys)) (hn : xs.length ≤ 140737488355328) :
    Calls Tryd.prog 10 #[.slice A xs.length c, .slice B ys.length d] w fun e w' => e = .returned (.bool (decide (xs = ys))) ∧ ∃ n, w' = w.drewN n := by
  by_cases hl : xs.length = ys.length
  · have hne : ((xs.length : Int) != (ys.length : Int)) = false := by rw [hl]; simp
    have Hl := Lib.hid hl
    clear hl
    go_enter Tryd.func10, Tryd.ntmps10
    go_wp2
    go_loopw [13] (fun i wr => ∃ j n : Nat, j ≤ xs.length ∧ i = .int .i64 j ∧ wr = w.drewN n ∧ Hid (xs.take j = ys.take j)) (fun i _ => xs.length - (intOf i).toNat)
    case atStart => exact ⟨0, 0, Nat.zero_le _, rfl, rfl, rfl⟩
    case round =>
      obtain ⟨j, n, hj, rfl, rfl, ht⟩ := hrel
      by_cases hlt : j < xs.length
      · have hlt' : j < ys.length := by have := Hl.out; omega
        obtain ⟨ad, rfl, hca⟩ := ha.at (bs_get xs j hlt)
        obtain ⟨bd, rfl, hcb⟩ := hb.at (bs_get ys j hlt')
        obtain ⟨x, hx⟩ : ∃ x, xs.getD j 0 = x := ⟨_, rfl⟩
        obtain ⟨y, hy⟩ : ∃ y, ys.getD j 0 = y := ⟨_, rfl⟩
        rw [hx] at hca
        rw [hy] at hcb
        have HX := Lib.hid hx
        have HY := Lib.hid hy
        clear hx hy
        by_cases hxy : x = y
        · subst hxy
          go_wp2
          go_quiet (fail)
          go_wp2
          go_roundw
          case rel => exact ⟨j + 1, _, by omega, by go_num, rfl, take_eq_succ xs ys j hlt hlt' ht (HX.out.trans HY.out.symm)⟩
          case measure => simp [intOf]; omega
        · have hne' : (x != y) = true := by simp [hxy]
          have Hxy := Lib.hid hxy
          clear hxy
          go_wp2
          go_quiet (fail)
          go_wp2
          go_ret
          refine ⟨?_, _, World.drewN_drewN w n nq⟩
          have : decide (xs = ys) = false := by
            simp only [decide_eq_false_iff_not]
            rintro rfl
            exact Hxy.out (HX.out.symm.trans HY.out)
          rw [this]
          rfl
      · have hj : j = xs.length := by omega
        go_wp2
        go_ret
        refine ⟨?_, _, rfl⟩
        have : decide (xs = ys) = true := by
          have h1 := ht.out
          have h2 := Hl.out
          rw [hj] at h1
          rw [List.take_length, h2, List.take_length] at h1
          simpa using h1
        rw [this]
        rfl
  · have hne : ((xs.length : Int) != (ys.length : Int)) = true := by simp; omega
    have hd : decide (xs = ys) = false := by simp; rintro rfl; exact hl rfl
    have Hd := Lib.hid hd
    clear hl hd
    go_enter Tryd.func10, Tryd.ntmps10
    go_wp2
    go_ret
    exact ⟨by rw [Hd.out]; rfl, 0, rfl⟩

theorem equal_stay (A B : Option Addr) (c d : Nat) (xs ys : List Int) (w : World) (ha : Arr w A (bs xs)) (hb : Arr w B (bs ys)) (hn : xs.length ≤ 140737488355328) :
    Calls Tryd.prog 10 #[.slice A xs.length c, .slice B ys.length d] w (Stay (.bool (decide (xs = ys))) w) :=
  (equal_any A B c d xs ys w ha hb hn).mono fun _ _ ⟨he, n, hw⟩ => ⟨he, by rw [hw]; exact (Kp.refl _ _).drewN n⟩

/-- The same, the lengths told apart. -/
theorem equal_len (A B : Option Addr) (n m c d : Nat) (xs ys : List Int) (w : World) (hx : xs.length = n) (hy : ys.length = m) (ha : Arr w A (bs xs)) (hb : Arr w B (bs ys)) (hn : n ≤ 140737488355328) :
    Calls Tryd.prog 10 #[.slice A n c, .slice B m d] w (Stay (.bool (decide (xs = ys))) w) := by
  subst hx hy
  exact equal_stay A B c d xs ys w ha hb hn

end Go.Proofs.YtilfheociidloaaDoor
