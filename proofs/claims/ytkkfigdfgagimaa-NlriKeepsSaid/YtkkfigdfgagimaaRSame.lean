/- peerageref03.Same: its contract. -/
import Derived.Test.YtkkfigdfgagimaaNlEq
namespace Go.Proofs.Ytkkfigdfgagimaa
open Go.RowKit
set_option linter.unusedVariables false
set_option linter.unusedSimpArgs false

set_option maxRecDepth 100000 in
set_option maxHeartbeats 4000000 in
theorem rsame_any (A B : Option Addr) (c d : Nat) (xs ys : List RtI) (w : World) (ha : RtL w A xs) (hb : RtL w B ys) (hn : xs.length ≤ 1000000) :
    Calls Try.prog 17 #[.slice A xs.length c, .slice B ys.length d] w (Stay (.bool (decide (xs = ys))) w) := by
  have HA := Lib.hid ha
  have HB := Lib.hid hb
  by_cases hl : xs.length = ys.length
  · have hne : ((xs.length : Int) != (ys.length : Int)) = false := by rw [hl]; simp
    obtain ⟨D, hD⟩ : ∃ D, decide (xs = ys) = D := ⟨_, rfl⟩
    have HD := Lib.hid hD
    rw [hD]
    obtain ⟨n, hnn⟩ : ∃ n, xs.length = n := ⟨_, rfl⟩
    obtain ⟨m, hmm⟩ : ∃ m, ys.length = m := ⟨_, rfl⟩
    have HN := Lib.hid hnn
    have HM := Lib.hid hmm
    rw [hnn] at hn hne hl ⊢
    rw [hmm] at hne hl ⊢
    subst hl
    clear hnn hmm hD ha hb
    go_enter Try.func17, Try.ntmps17
    go_wp2
    go_loopw [5] (fun i wr => ∃ j : Nat, j ≤ n ∧ i = .int .i64 j ∧ Hid (Kp NoB w wr) ∧ Hid (xs.take j = ys.take j)) (fun i _ => n - (intOf i).toNat)
    case atStart => exact ⟨0, Nat.zero_le _, rfl, Lib.hid (Kp.refl _ _), rfl⟩
    case round =>
      obtain ⟨j, hj, rfl, HK, HT⟩ := hrel
      by_cases hlt : j < n
      · obtain ⟨ad, x, hxj, hxB, hA, hca⟩ := (HA.out.and HK.out).at (by rw [HN.out]; exact hlt)
        obtain ⟨bd, y, hyj, hyB, hB, hcb⟩ := (HB.out.and HK.out).at (by rw [HM.out]; exact hlt)
        subst hA hB
        have hx19 := rtC_length hxB.2.2.2.1
        have hy19 := rtC_length hyB.2.2.2.1
        have he := fun w => binop_rt_ne w x y hxB.2.2.2.1 hyB.2.2.2.1
        unfold RtI.val at he
        have HXJ := Lib.hid hxj
        have HYJ := Lib.hid hyj
        have HCA := Lib.hid hca
        have HCB := Lib.hid hcb
        obtain ⟨rx, hrx⟩ : ∃ rx, rtC x = rx := ⟨_, rfl⟩
        obtain ⟨ry, hry⟩ : ∃ ry, rtC y = ry := ⟨_, rfl⟩
        rw [hrx] at he HCA hx19
        rw [hry] at he HCB hy19
        have HI1 := Lib.hid (show (Try.prog.info? 31).map (·.size) = some rx.length by rw [hx19]; exact (size_of infoRt).2)
        have HI2 := Lib.hid (show (Try.prog.info? 31).map (·.size) = some ry.length by rw [hy19]; exact (size_of infoRt).2)
        obtain ⟨q, hq⟩ : ∃ q, (!decide (x = y)) = q := ⟨_, rfl⟩
        have HQ := Lib.hid hq
        rw [hq] at he
        clear hrx hry hxj hyj hca hcb hx19 hy19 hxB hyB hq
        go_wp2_with fail
        refine wp_region_noPanic ?_
        refine wp_region_held_drew (S := fun w' => CellsAt w' (ad.add (j * 19)) rx ∧ CellsAt w' (bd.add (j * 19)) ry) (by kernel_rfl) ?_ (fun hHeld => ?_)
        · exact ⟨fun i v hv => HCA.out i v hv, fun i v hv => HCB.out i v hv⟩
        refine wpAnyH_take (i := 0) (oi := ⟨some 17, _, _, _, _, _⟩) (v := ?_) rfl (by kernel_rfl) (by kernel_rfl) (by kernel_rfl) (fun _ _ _ h => h) (Or.inl ⟨by rfl, fun w hSw => ?_⟩) (by assumption) ?_
        rotate_left
        · clear hSw
          go_simp
          with_reducible rfl
        try simp only [Act.put, List.setIfInBounds_toArray, List.set_cons_zero, List.set_cons_succ]
        refine wpAnyH_take (i := 1) (oi := ⟨some 18, _, _, _, _, _⟩) (v := ?_) rfl (by kernel_rfl) (by kernel_rfl) (by kernel_rfl) (fun _ _ _ h => h) (Or.inl ⟨by rfl, fun w hSw => ?_⟩) (by assumption) ?_
        rotate_left
        · clear hSw
          go_simp
          with_reducible rfl
        try simp only [Act.put, List.setIfInBounds_toArray, List.set_cons_zero, List.set_cons_succ]
        refine wpAnyH_take (i := 2) (oi := ⟨some 19, _, _, _, _, _⟩) (v := .pointer (some (ad.add (j * 19)))) rfl (by kernel_rfl) (by kernel_rfl) (by kernel_rfl) (fun _ _ _ h => h) (Or.inl ⟨by rfl, fun w hSw => ?_⟩) (by assumption) ?_
        · clear hSw
          go_simp
        try simp only [Act.put, List.setIfInBounds_toArray, List.set_cons_zero, List.set_cons_succ]
        refine wpAnyH_take (i := 3) (oi := ⟨some 20, _, _, _, _, _⟩) (v := .agg rx.toArray) rfl (by kernel_rfl) (by kernel_rfl) (by kernel_rfl) (fun _ _ _ h => h) (yieldsIf_load_at (by rfl) 31 _ rfl (ad.add (j * 19)) rfl rx _ (fun w hSw => hSw.1) Try.underlying31 rfl HI1.out) (by assumption) ?_
        try simp only [Act.put, List.setIfInBounds_toArray, List.set_cons_zero, List.set_cons_succ]
        refine wpAnyH_take (i := 4) (oi := ⟨some 21, _, _, _, _, _⟩) (v := ?_) rfl (by kernel_rfl) (by kernel_rfl) (by kernel_rfl) (fun _ _ _ h => h) (Or.inl ⟨by rfl, fun w hSw => ?_⟩) (by assumption) ?_
        rotate_left
        · clear hSw
          go_simp
          with_reducible rfl
        try simp only [Act.put, List.setIfInBounds_toArray, List.set_cons_zero, List.set_cons_succ]
        refine wpAnyH_take (i := 5) (oi := ⟨some 22, _, _, _, _, _⟩) (v := ?_) rfl (by kernel_rfl) (by kernel_rfl) (by kernel_rfl) (fun _ _ _ h => h) (Or.inl ⟨by rfl, fun w hSw => ?_⟩) (by assumption) ?_
        rotate_left
        · clear hSw
          go_simp
          with_reducible rfl
        try simp only [Act.put, List.setIfInBounds_toArray, List.set_cons_zero, List.set_cons_succ]
        refine wpAnyH_take (i := 6) (oi := ⟨some 23, _, _, _, _, _⟩) (v := .pointer (some (bd.add (j * 19)))) rfl (by kernel_rfl) (by kernel_rfl) (by kernel_rfl) (fun _ _ _ h => h) (Or.inl ⟨by rfl, fun w hSw => ?_⟩) (by assumption) ?_
        · clear hSw
          go_simp
        try simp only [Act.put, List.setIfInBounds_toArray, List.set_cons_zero, List.set_cons_succ]
        refine wpAnyH_take (i := 7) (oi := ⟨some 24, _, _, _, _, _⟩) (v := .agg ry.toArray) rfl (by kernel_rfl) (by kernel_rfl) (by kernel_rfl) (fun _ _ _ h => h) (yieldsIf_load_at (by rfl) 31 _ rfl (bd.add (j * 19)) rfl ry _ (fun w hSw => hSw.2) Try.underlying31 rfl HI2.out) (by assumption) ?_
        try simp only [Act.put, List.setIfInBounds_toArray, List.set_cons_zero, List.set_cons_succ]
        refine wpAnyH_take (i := 8) (oi := ⟨some 25, _, _, _, _, _⟩) (v := .bool q) rfl (by kernel_rfl) (by kernel_rfl) (by kernel_rfl) (fun _ _ _ h => h) (Or.inl ⟨by rfl, fun w hSw => ?_⟩) (by assumption) ?_
        · clear hSw
          go_simp
        try simp only [Act.put, List.setIfInBounds_toArray, List.set_cons_zero, List.set_cons_succ]
        refine wpAnyH_done (by kernel_rfl) ?_ _
        refine NoPanic.normal ?_
        rcases q with _ | _
        · go_wp2_with fail
          go_roundw
          case rel => exact ⟨j + 1, by omega, by go_num, Lib.hid HK.out.drew, Lib.hid (take_eq_succR xs ys j x y HXJ.out HYJ.out HT.out (by have := HQ.out; simpa using this))⟩
          case measure => simp [intOf]; omega
        · go_wp2_with fail
          go_ret
          have hd : D = false := by
            rw [← HD.out]
            refine decide_eq_false (fun e => ?_)
            subst e
            have h1 := HXJ.out
            rw [HYJ.out] at h1
            injection h1 with h1
            have := HQ.out
            simp [h1] at this
          rw [hd]
          exact ⟨rfl, HK.out.drew⟩
      · have hj' : j = n := by omega
        go_wp2
        go_ret
        have hd : D = true := by
          rw [← HD.out]
          have h1 := HT.out
          rw [List.take_of_length_le (by rw [HN.out]; omega), List.take_of_length_le (by rw [HM.out]; omega)] at h1
          simpa using h1
        rw [hd]
        exact ⟨rfl, HK.out⟩
  · have hne : ((xs.length : Int) != (ys.length : Int)) = true := by simp; omega
    have hd : decide (xs = ys) = false := by simp; rintro rfl; exact hl rfl
    rw [hd]
    clear hl hd ha hb
    go_enter Try.func17, Try.ntmps17
    go_wp2
    go_ret
    exact ⟨rfl, Kp.refl _ _⟩

end Go.Proofs.Ytkkfigdfgagimaa
