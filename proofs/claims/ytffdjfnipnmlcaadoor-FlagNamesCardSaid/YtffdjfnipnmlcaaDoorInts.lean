/- Slices of ints: slices.Index, slices.Contains, slices.Equal: contracts by walking the Go text. No condition but the length. -/
import Derived.Test.YtffdjfnipnmlcaaDoorMem
import Derived.Test.YtffdjfnipnmlcaaDoorPlain
import Derived.Test.YtffdjfnipnmlcaaDoorProg
import Derived.KernelRfl
import Derived.Deep.QuietTactic
import Derived.BigQuiet
import Derived.WalkSpells
namespace Go.Proofs.YtffdjfnipnmlcaaDoor
open Go.RowKit
set_option linter.unusedVariables false
set_option linter.unusedSimpArgs false

/-- A list of ints, as cells. -/
def is (xs : List Int) : List Value := xs.map (Value.int .i64)
theorem is_length (xs : List Int) : (is xs).length = xs.length := by simp [is]
theorem is_append (xs ys : List Int) : is (xs ++ ys) = is xs ++ is ys := by simp [is]
theorem is_one (xs : List Int) : ∀ u ∈ is xs, u.oneCell' = true := by
  intro u hu
  obtain ⟨x, _, rfl⟩ := List.mem_map.1 hu
  rfl
theorem is_get (xs : List Int) (j : Nat) (h : j < xs.length) : (is xs)[j]? = some (.int .i64 (xs.getD j 0)) := by
  simp [is, List.getElem?_eq_getElem h]

theorem take_no (zs : List Int) (x : Int) (j : Nat) (hj : j < zs.length) (h : (zs.take j).contains x = false) (hx : (x == zs.getD j 0) = false) : (zs.take (j + 1)).contains x = false := by
  rw [take_snoc zs j hj]
  simp at h hx ⊢
  exact ⟨h, hx⟩

set_option maxHeartbeats 1000000 in
theorem index_any (A : Option Addr) (c : Nat) (zs : List Int) (x : Int) (w : World) (ha : Arr w A (is zs)) (hl : zs.length ≤ 140737488355328) :
    Calls Tryd.prog 13 #[.slice A zs.length c, .int .i64 x] w fun e w' => (∃ r : Int, e = .returned (.int .i64 r) ∧ decide (0 ≤ r) = zs.contains x) ∧ w' = w := by
  have HC := Lib.hid (fun j (hj : j < zs.length) => ha.at (is_get zs j hj))
  obtain ⟨n, hn⟩ : ∃ n, zs.length = n := ⟨_, rfl⟩
  have HN := Lib.hid hn
  rw [hn] at HC hl ⊢
  clear hn ha
  go_enter Tryd.func13, Tryd.ntmps13
  go_wp2
  go_loopw [5, 8] (fun _ i wr => ∃ j : Nat, j ≤ n ∧ i = .int .i64 j ∧ wr = w ∧ Hid ((zs.take j).contains x = false)) (fun _ i _ => n - (intOf i).toNat)
  case atStart => exact ⟨0, Nat.zero_le _, rfl, rfl, Lib.hid (by simp)⟩
  case round =>
    obtain ⟨j, hj, rfl, rfl, HU⟩ := hrel
    by_cases hlt : j < n
    · obtain ⟨ad, rfl, hc⟩ := HC.out j hlt
      obtain ⟨y, hy⟩ : ∃ y, zs.getD j 0 = y := ⟨_, rfl⟩
      rw [hy] at hc
      have HY := Lib.hid hy
      clear hy
      cases hxy : (x == y) with
      | true =>
        have HE := Lib.hid hxy
        go_wp2
        go_ret
        refine ⟨⟨_, rfl, ?_⟩, rfl⟩
        have hz : x ∈ zs := by
          have h1 := HE.out
          rw [← HY.out] at h1
          have h2 : x = zs.getD j 0 := by simpa using h1
          rw [h2, List.getD_eq_getElem?_getD, List.getElem?_eq_getElem (by rw [HN.out]; exact hlt)]
          exact List.getElem_mem _
        simp [hz]
      | false =>
        have HE := Lib.hid hxy
        go_wp2
        go_roundw
        case rel => exact ⟨j + 1, by omega, by go_num, (by first | rfl | trivial), Lib.hid (take_no zs x j (by rw [HN.out]; exact hlt) HU.out (by rw [HY.out]; exact HE.out))⟩
        case measure => simp [intOf]; omega
    · have hj : j = n := by omega
      subst hj
      have hz := HU.out
      rw [List.take_of_length_le (by rw [HN.out]; exact Nat.le_refl _)] at hz
      have HZ := Lib.hid hz
      clear hz
      go_wp2
      go_ret
      exact ⟨⟨_, rfl, by rw [HZ.out]; rfl⟩, rfl⟩

theorem contains_any (A : Option Addr) (c : Nat) (zs : List Int) (x : Int) (w : World) (ha : Arr w A (is zs)) (hl : zs.length ≤ 140737488355328) :
    Calls Tryd.prog 6 #[.slice A zs.length c, .int .i64 x] w fun e w' => e = .returned (.bool (zs.contains x)) ∧ w' = w := by
  have H := Lib.hid (index_any A c zs x w ha hl)
  clear ha hl
  obtain ⟨n, hn⟩ : ∃ n, zs.length = n := ⟨_, rfl⟩
  obtain ⟨q, hq⟩ : ∃ q, zs.contains x = q := ⟨_, rfl⟩
  rw [hn, hq] at H
  rw [hn, hq]
  clear hn hq
  go_enter Tryd.func6, Tryd.ntmps6
  go_wp2_with (go_at_call 13; refine H.out.mono ?_; rintro e w1 ⟨⟨r, rfl, hr⟩, rfl⟩; replace hr := Lib.hid hr)
  all_goals
    go_ret
    refine ⟨?_, rfl⟩
    rw [← hr.out]
    first | rfl | simp_all

/-- What two lists of one length have in common in front. -/
theorem take_eq_succ (xs ys : List Int) (j : Nat) (hx : j < xs.length) (hy : j < ys.length) (h : xs.take j = ys.take j) (he : xs.getD j 0 = ys.getD j 0) : xs.take (j + 1) = ys.take (j + 1) := by
  rw [take_snoc xs j hx, take_snoc ys j hy, h, he]

set_option maxHeartbeats 1000000 in
theorem equali_any (A B : Option Addr) (c d : Nat) (xs ys : List Int) (w : World) (ha : Arr w A (is xs)) (hb : Arr w B (is ys)) (hn : xs.length ≤ 140737488355328) :
    Calls Tryd.prog 9 #[.slice A xs.length c, .slice B ys.length d] w fun e w' => e = .returned (.bool (decide (xs = ys))) ∧ ∃ n, w' = w.drewN n := by
  by_cases hl : xs.length = ys.length
  · have hne : ((xs.length : Int) != (ys.length : Int)) = false := by rw [hl]; simp
    have Hl := Lib.hid hl
    clear hl
    go_enter Tryd.func9, Tryd.ntmps9
    go_wp2
    go_loopw [13] (fun i wr => ∃ j n : Nat, j ≤ xs.length ∧ i = .int .i64 j ∧ wr = w.drewN n ∧ Hid (xs.take j = ys.take j)) (fun i _ => xs.length - (intOf i).toNat)
    case atStart => exact ⟨0, 0, Nat.zero_le _, rfl, rfl, rfl⟩
    case round =>
      obtain ⟨j, n, hj, rfl, rfl, ht⟩ := hrel
      by_cases hlt : j < xs.length
      · have hlt' : j < ys.length := by have := Hl.out; omega
        obtain ⟨ad, rfl, hca⟩ := ha.at (is_get xs j hlt)
        obtain ⟨bd, rfl, hcb⟩ := hb.at (is_get ys j hlt')
        obtain ⟨x, hx⟩ : ∃ x, xs.getD j 0 = x := ⟨_, rfl⟩
        obtain ⟨y, hy⟩ : ∃ y, ys.getD j 0 = y := ⟨_, rfl⟩
        rw [hx] at hca
        rw [hy] at hcb
        have HX := Lib.hid hx
        have HY := Lib.hid hy
        clear hx hy
        by_cases hxy : x = y
        · subst hxy
          go_wp2
          go_quiet (fail)
          go_wp2
          go_roundw
          case rel => exact ⟨j + 1, _, by omega, by go_num, rfl, take_eq_succ xs ys j hlt hlt' ht (HX.out.trans HY.out.symm)⟩
          case measure => simp [intOf]; omega
        · have hne' : (x != y) = true := by simp [hxy]
          have Hxy := Lib.hid hxy
          clear hxy
          go_wp2
          go_quiet (fail)
          go_wp2
          go_ret
          refine ⟨?_, _, World.drewN_drewN w n nq⟩
          have : decide (xs = ys) = false := by
            simp only [decide_eq_false_iff_not]
            rintro rfl
            exact Hxy.out (HX.out.symm.trans HY.out)
          rw [this]
          rfl
      · have hj : j = xs.length := by omega
        go_wp2
        go_ret
        refine ⟨?_, _, rfl⟩
        have : decide (xs = ys) = true := by
          have h1 := ht.out
          have h2 := Hl.out
          rw [hj] at h1
          rw [List.take_length, h2, List.take_length] at h1
          simpa using h1
        rw [this]
        rfl
  · have hne : ((xs.length : Int) != (ys.length : Int)) = true := by simp; omega
    have hd : decide (xs = ys) = false := by simp; rintro rfl; exact hl rfl
    have Hd := Lib.hid hd
    clear hl hd
    go_enter Tryd.func9, Tryd.ntmps9
    go_wp2
    go_ret
    exact ⟨by rw [Hd.out]; rfl, 0, rfl⟩

theorem equali_stay (A B : Option Addr) (c d : Nat) (xs ys : List Int) (w : World) (ha : Arr w A (is xs)) (hb : Arr w B (is ys)) (hn : xs.length ≤ 140737488355328) :
    Calls Tryd.prog 9 #[.slice A xs.length c, .slice B ys.length d] w (Stay (.bool (decide (xs = ys))) w) :=
  (equali_any A B c d xs ys w ha hb hn).mono fun _ _ ⟨he, n, hw⟩ => ⟨he, by rw [hw]; exact (Kp.refl _ _).drewN n⟩

end Go.Proofs.YtffdjfnipnmlcaaDoor
